/- Rows, Of of the reference's layer 25. -/
import Derived.Test.YtonleohlplkglaaGreatDoorTz
namespace Go.Proofs.YtonleohlplkglaaGreatDoor
open Go Go.RowKit

/-- A row of the table of kinds. -/
structure KR where
  name : ByteArray
  p : Int
  c : Int
  n : Int
  v : Int
  q : Int
  side : Bool
def KR.cells (r : KR) : List Value := [.string r.name, .int .i64 r.p, .int .i64 r.c, .int .i64 r.n, .int .i64 r.v, .int .i64 r.q, .bool r.side]
def kTab : List KR :=
  [⟨⟨#[102, 105, 120]⟩, 1, 0, 2, 1, 2, false⟩,
   ⟨⟨#[100, 105, 115, 116, 97, 110, 99, 101]⟩, 2, 0, 1, 2, 1, false⟩,
   ⟨⟨#[105, 110, 99, 105, 100, 101, 110, 116]⟩, 3, 0, 0, 0, 1, false⟩,
   ⟨⟨#[111, 102, 102, 115, 101, 116]⟩, 3, 0, 1, 2, 1, true⟩,
   ⟨⟨#[97, 110, 103, 108, 101]⟩, 4, 0, 1, 3, 1, false⟩,
   ⟨⟨#[112, 97, 114, 97, 108, 108, 101, 108]⟩, 4, 0, 0, 0, 1, false⟩,
   ⟨⟨#[112, 101, 114, 112, 101, 110, 100, 105, 99, 117, 108, 97, 114]⟩, 4, 0, 0, 0, 1, false⟩,
   ⟨⟨#[101, 113, 117, 97, 108]⟩, 4, 0, 0, 0, 1, false⟩,
   ⟨⟨#[109, 105, 100, 112, 111, 105, 110, 116]⟩, 3, 0, 0, 0, 2, false⟩,
   ⟨⟨#[115, 121, 109, 109, 101, 116, 114, 105, 99]⟩, 4, 0, 0, 0, 2, false⟩,
   ⟨⟨#[104, 111, 114, 105, 122, 111, 110, 116, 97, 108]⟩, 2, 0, 0, 0, 1, false⟩,
   ⟨⟨#[118, 101, 114, 116, 105, 99, 97, 108]⟩, 2, 0, 0, 0, 1, false⟩,
   ⟨⟨#[111, 110, 99, 105, 114, 99, 108, 101]⟩, 1, 1, 0, 0, 1, false⟩,
   ⟨⟨#[114, 97, 100, 105, 117, 115]⟩, 0, 1, 1, 2, 1, false⟩,
   ⟨⟨#[115, 97, 109, 101, 114, 97, 100, 105, 117, 115]⟩, 0, 2, 0, 0, 1, false⟩,
   ⟨⟨#[116, 97, 110, 103, 101, 110, 116, 108, 105, 110, 101]⟩, 2, 1, 0, 0, 1, true⟩,
   ⟨⟨#[116, 97, 110, 103, 101, 110, 116, 99, 105, 114, 99, 108, 101]⟩, 0, 2, 0, 0, 1, true⟩]
def kCells : List Value := kTab.flatMap KR.cells

set_option maxRecDepth 100000 in
set_option maxHeartbeats 1600000 in
theorem ref25_Rows (w : World) : Calls Tryz.prog 149 #[] w fun e w' => e = .returned (.slice (some ⟨w.heap.size, 0, none⟩) 17 17) ∧ w' = w.alloc (.cells kCells.toArray 120) := by
  go_enter Tryz.func149, Tryz.ntmps149
  go_wp2_with fail
  go_ret
  exact ⟨rfl, rfl⟩

end Go.Proofs.YtonleohlplkglaaGreatDoor
