/- Vars and Drawn return the number of variables and the coordinates as drawn: for every sketch the statement SketchDrawn returns true, and its argument reads as before. Conditions: the listed package-level variables hold what the program's text lays (the card's tie). -/
import Derived.Test.YtjigihlhjhbkpaaGreatDoorYT
import Derived.Test.YtjigihlhjhbkpaaGreatDoorYL
import Derived.Test.YtjigihlhjhbkpaaGreatDoorYU
namespace Go.Proofs.YtjigihlhjhbkpaaGreatDoor
open Go Go.RowKit
theorem sk_args {H : Type} {enc : TypeId × Value → H} {W : World} {fuel : Nat} {cs : Array Value} {d : DataW H} {p : List MemPlace} (h : DataW.trod enc Tryz.prog W 0 (fun _ => true) true fuel 29 cs.toList = some (d, p)) (hw : (d.weights Tryz.prog 29).all (· ≤ reachBytes) = true) :
  ∃ v0 v1 v2 v3 v4 v5 s, cs = #[v0, v1, v2, v3, v4, v5] ∧ SkAt fuel W v0 v1 v2 v3 v4 v5 s := by
 obtain ⟨u0, u1, u2, u3, u4, u5, s, hcells, hSk⟩ := sk_read (enc := enc) (x := (d, p)) h hw
 exact ⟨u0, u1, u2, u3, u4, u5, s, Array.ext' hcells, hSk⟩
theorem drawn_law : LawS 3 := by
 intro H enc W fuel cs d p h hw
 obtain ⟨v0, v1, v2, v3, v4, v5, s, rfl, hs⟩ := sk_args h hw
 exact law_Drawn hs
theorem sketchDrawn_proved : Rows.SketchDrawnCardSaid := sketchDrawn_card drawn_law
#print axioms sketchDrawn_proved
end Go.Proofs.YtjigihlhjhbkpaaGreatDoor
