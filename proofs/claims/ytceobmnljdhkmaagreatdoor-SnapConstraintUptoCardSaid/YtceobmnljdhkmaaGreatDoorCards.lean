/-
  DERIVED. GIVEN WITH THE SEED: THE CARDS: each row of YtceobmnljdhkmaaGreatDoorRows.lean that lists a variable, with what it lists TIED to the program's text (the seventh form; the later family's looks); each row that meets fmt, with fmt's text TOLD by the authors' own Lean function (tested against real Go, not proved from fmt's source: count such statements apart). THE CARD IS WHAT COUNTS. Prove the row's statement (the work); the ties are given (YtceobmnljdhkmaaGreatDoorTie.lean); close each card by the builder's one call (the guide's Derived/Test/ToyasCard.lean, 'card_holds'). Laid BY PROGRAM, IN A SANDBOX (cutbox-door.mjs). By AI agents, Wed Nov 11 2026. No macro, syntax, notation, axiom, sorry.
-/
import Derived.Test.YtceobmnljdhkmaaGreatDoorRows
import GoSem.ClaimSeven
namespace Go.Proofs.YtceobmnljdhkmaaGreatDoor
namespace Rows

/-- THE TIED CARD OF 'setsquarelaw46.SnapConstraint'. -/
def snapConstraintCard : Claim7 := { stood := { row := snapConstraintRow, standIns := [], harness := (true, "8e9a9894bd9017be8e7d8742422144cd14e5185dd2a574fd6711375eb50d9b5f"), looks := false }, kinds := [], alts := [], laidByText := true, laidKinds := [.data, .data, .data, .data, .data], laidTests := true, laidLooks := .later }
def SnapConstraintCardSaid : Prop := Claim7.holds Tryz.pinned (.plain (OpenSpec.ofChange snapConstraintSpec)) snapConstraintCard

/-- THE SECOND FORM's CARD OF 'setsquarelaw46.SnapConstraint'. -/
def snapConstraintUptoCard : Claim7 := { stood := { row := snapConstraintUptoRow, standIns := [], harness := (true, "8e9a9894bd9017be8e7d8742422144cd14e5185dd2a574fd6711375eb50d9b5f"), looks := false }, kinds := [], alts := [], laidByText := true, laidKinds := [.data, .data, .data, .data, .data], laidTests := true, laidLooks := .later }
def SnapConstraintUptoCardSaid : Prop := Claim7.holds Tryz.pinned (.plain (OpenSpec.upto snapConstraintSpec)) snapConstraintUptoCard
end Rows
end Go.Proofs.YtceobmnljdhkmaaGreatDoor
