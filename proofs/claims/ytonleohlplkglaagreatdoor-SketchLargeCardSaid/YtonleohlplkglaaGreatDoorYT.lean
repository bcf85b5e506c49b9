/- A sketch with too many items of one kind is too large, whatever else is wrong: for every sketch and all numbers the statement SketchLarge returns true, and its arguments read as before. Conditions: the listed package-level variables hold what the program's text lays (the card's tie). -/
import Derived.Test.YtonleohlplkglaaGreatDoorYX
import Derived.Test.YtonleohlplkglaaGreatDoorYR
import Derived.Test.YtonleohlplkglaaGreatDoorYK
import Derived.Test.YtonleohlplkglaaGreatDoorYS
namespace Go.Proofs.YtonleohlplkglaaGreatDoor
open Go Go.RowKit
theorem sk_args {H : Type} {enc : TypeId × Value → H} {W : World} {fuel : Nat} {cs : Array Value} {d : DataW H} {p : List MemPlace} (h : DataW.trod enc Tryz.prog W 0 (fun _ => true) true fuel 29 cs.toList = some (d, p)) (hw : (d.weights Tryz.prog 29).all (· ≤ reachBytes) = true) :
  ∃ v0 v1 v2 v3 v4 v5 s, cs = #[v0, v1, v2, v3, v4, v5] ∧ SkAt fuel W v0 v1 v2 v3 v4 v5 s := by
 obtain ⟨u0, u1, u2, u3, u4, u5, s, hcells, hSk⟩ := sk_read (enc := enc) (x := (d, p)) h hw
 exact ⟨u0, u1, u2, u3, u4, u5, s, Array.ext' hcells, hSk⟩
theorem small_u8 {k : Int} (h : (Lit.int .u8 k).wf = true) : ∃ n : Nat, k = n ∧ n < 256 := by
 simp only [Lit.wf, Bool.and_eq_true, decide_eq_true_eq] at h
 rw [show IntKind.u8.min = 0 by rfl, show IntKind.u8.max = 255 by rfl] at h
 exact ⟨k.toNat, by omega, by omega⟩
theorem laid_same : Rows.sketchLargeRow.laid = Rows.sketchValidRow.laid := by kernel_rfl
theorem large_law : LawSBB 4 := by
 intro H enc W fuel cs k m d p h hw hk hm hL
 obtain ⟨v0, v1, v2, v3, v4, v5, s, rfl, hs⟩ := sk_args h hw
 obtain ⟨k1, rfl, hk1⟩ := small_u8 hk
 obtain ⟨m1, rfl, hm1⟩ := small_u8 hm
 rw [laid_same] at hL
 exact law_Large hs k1 m1 hk1 hm1 (laid_kinds hL) (laid_ops hL)
theorem sketchLarge_proved : Rows.SketchLargeCardSaid := sketchLarge_card large_law
#print axioms sketchLarge_proved
end Go.Proofs.YtonleohlplkglaaGreatDoor
