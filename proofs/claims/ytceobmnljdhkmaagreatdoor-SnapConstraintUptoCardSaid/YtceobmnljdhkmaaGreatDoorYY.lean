/- awake of the statements of layer 46, run by the kernel. -/
import Derived.Test.YtceobmnljdhkmaaGreatDoorYX
import Derived.Test.YtceobmnljdhkmaaGreatDoorYS
namespace Go.Proofs.YtceobmnljdhkmaaGreatDoor
open Go Go.Proofs.YtceobmnljdhkmaaGreatDoor.Ev
set_option maxRecDepth 100000
def ent (nm : List UInt8) (p c n q : Nat) (side len pos : Bool) : List AV := [.v (.string ⟨nm.toArray⟩), .i .i64 p, .i .i64 c, .i .i64 n, .i .i64 q, .b side, .b len, .b pos]
def ent0 : List AV := ent [] 0 0 0 0 false false false
def ent1 : List AV := ent [102, 105, 120] 1 0 2 2 false true false
def ent2 : List AV := ent [100, 105, 115, 116, 97, 110, 99, 101] 2 0 1 1 false true true
def ent3 : List AV := ent [105, 110, 99, 105, 100, 101, 110, 116] 3 0 0 1 false false false
def ent4 : List AV := ent [111, 102, 102, 115, 101, 116] 3 0 1 1 true true true
def ent5 : List AV := ent [97, 110, 103, 108, 101] 4 0 1 1 false false false
def ent6 : List AV := ent [112, 97, 114, 97, 108, 108, 101, 108] 4 0 0 1 false false false
def ent7 : List AV := ent [112, 101, 114, 112, 101, 110, 100, 105, 99, 117, 108, 97, 114] 4 0 0 1 false false false
def ent8 : List AV := ent [101, 113, 117, 97, 108] 4 0 0 1 false false false
def ent9 : List AV := ent [109, 105, 100, 112, 111, 105, 110, 116] 3 0 0 2 false false false
def ent10 : List AV := ent [115, 121, 109, 109, 101, 116, 114, 105, 99] 4 0 0 2 false false false
def ent11 : List AV := ent [104, 111, 114, 105, 122, 111, 110, 116, 97, 108] 2 0 0 1 false false false
def ent12 : List AV := ent [118, 101, 114, 116, 105, 99, 97, 108] 2 0 0 1 false false false
def ent13 : List AV := ent [111, 110, 99, 105, 114, 99, 108, 101] 1 1 0 1 false false false
def ent14 : List AV := ent [114, 97, 100, 105, 117, 115] 0 1 1 1 false true true
def ent15 : List AV := ent [115, 97, 109, 101, 114, 97, 100, 105, 117, 115] 0 2 0 1 false false false
def ent16 : List AV := ent [116, 97, 110, 103, 101, 110, 116, 108, 105, 110, 101] 2 1 0 1 true false false
def ent17 : List AV := ent [116, 97, 110, 103, 101, 110, 116, 99, 105, 114, 99, 108, 101] 0 2 0 1 true false false
def entL : List (List AV) := [ent0, ent1, ent2, ent3, ent4, ent5, ent6, ent7, ent8, ent9, ent10, ent11, ent12, ent13, ent14, ent15, ent16, ent17]
def tabC : List AV := entL.flatten
noncomputable def gs : List (Nat × Blk) := [(0, ⟨tabC, true⟩)]
noncomputable def stZ : St := ⟨.leaf, .h, 0, []⟩
noncomputable def kT : KS := fun a _ => asB a fun b => ifK b (some (.b true, stZ)) none
theorem awake_run : runB Tryz.prog prs 22000000 4 [] (stG gs) kT = some (.b true, stZ) := by kernel_rfl
end Go.Proofs.YtceobmnljdhkmaaGreatDoor
