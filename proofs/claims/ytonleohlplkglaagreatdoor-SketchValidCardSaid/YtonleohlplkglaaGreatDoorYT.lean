/- Valid returns the specified error: for every sketch the statement SketchValid returns true, and its argument reads as before. Conditions: the listed package-level variables hold what the program's text lays (the card's tie). -/
import Derived.Test.YtonleohlplkglaaGreatDoorYQ
import Derived.Test.YtonleohlplkglaaGreatDoorYR
import Derived.Test.YtonleohlplkglaaGreatDoorYK
import Derived.Test.YtonleohlplkglaaGreatDoorYS
namespace Go.Proofs.YtonleohlplkglaaGreatDoor
open Go Go.RowKit
theorem sk_args {H : Type} {enc : TypeId × Value → H} {W : World} {fuel : Nat} {cs : Array Value} {d : DataW H} {p : List MemPlace} (h : DataW.trod enc Tryz.prog W 0 (fun _ => true) true fuel 29 cs.toList = some (d, p)) (hw : (d.weights Tryz.prog 29).all (· ≤ reachBytes) = true) :
  ∃ v0 v1 v2 v3 v4 v5 s, cs = #[v0, v1, v2, v3, v4, v5] ∧ SkAt fuel W v0 v1 v2 v3 v4 v5 s := by
 obtain ⟨u0, u1, u2, u3, u4, u5, s, hcells, hSk⟩ := sk_read (enc := enc) (x := (d, p)) h hw
 exact ⟨u0, u1, u2, u3, u4, u5, s, Array.ext' hcells, hSk⟩
theorem valid_law : LawS 3 := by
 intro H enc W fuel cs d p h hw hL
 obtain ⟨v0, v1, v2, v3, v4, v5, s, rfl, hs⟩ := sk_args h hw
 exact law_Valid decC hs (laid_kinds hL) (laid_ops hL)
theorem sketchValid_proved : Rows.SketchValidCardSaid := sketchValid_card valid_law
#print axioms sketchValid_proved
end Go.Proofs.YtonleohlplkglaaGreatDoor
