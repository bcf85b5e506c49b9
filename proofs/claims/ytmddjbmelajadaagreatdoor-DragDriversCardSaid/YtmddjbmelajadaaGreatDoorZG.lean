/- Drivers returns the drivers of every plan in ascending order: for every plan the statement DragDrivers returns true, and its argument reads as before. Conditions: the listed package-level variables hold what the program's text lays (the card's tie). -/
import Derived.Test.YtmddjbmelajadaaGreatDoorZD
import Derived.Test.YtmddjbmelajadaaGreatDoorZF
namespace Go.Proofs.YtmddjbmelajadaaGreatDoor
open Go Go.RowKit
theorem drivers_law : LawS 3 := by
 intro H enc W fuel cs d p h hw hL
 obtain ⟨v0, v1, l, hcells, hA, -⟩ := pl_read (enc := enc) (x := (d, p)) h hw
 obtain rfl : cs = #[v0, v1] := Array.ext' hcells
 exact law_DragDrivers hA (laid_aw hL)
theorem dragDrivers_proved : Rows.DragDriversCardSaid := dragDrivers_card drivers_law
#print axioms dragDrivers_proved
end Go.Proofs.YtmddjbmelajadaaGreatDoor
