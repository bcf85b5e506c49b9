/-
  DERIVED. GIVEN WITH THE SEED: THE CARDS: each row of YtmddjbmelajadaaGreatDoorRows.lean that lists a variable, with what it lists TIED to the program's text (the seventh form; the later family's looks); each row that meets fmt, with fmt's text TOLD by the authors' own Lean function (tested against real Go, not proved from fmt's source: count such statements apart). THE CARD IS WHAT COUNTS. Prove the row's statement (the work); the ties are given (YtmddjbmelajadaaGreatDoorTie.lean); close each card by the builder's one call (the guide's Derived/Test/ToyasCard.lean, 'card_holds'). Laid BY PROGRAM, IN A SANDBOX (cutbox-door.mjs). By AI agents, Wed Nov 11 2026. No macro, syntax, notation, axiom, sorry.
-/
import Derived.Test.YtmddjbmelajadaaGreatDoorRows
import GoSem.ClaimSeven
namespace Go.Proofs.YtmddjbmelajadaaGreatDoor
namespace Rows

/-- THE TIED CARD OF 'setsquarelaw45.DragDrivers'. -/
def dragDriversCard : Claim7 := { stood := { row := dragDriversRow, standIns := [], harness := (true, "0f45279a220dd9d3ec93ebbd4786a0a9191cb753c0afca230ae8dc37b398ad2e"), looks := false }, kinds := [], alts := [], laidByText := true, laidKinds := [.data, .data, .data, .data, .data, .data], laidTests := true, laidLooks := .later }
def DragDriversCardSaid : Prop := Claim7.holds Tryz.pinned (.plain (OpenSpec.ofChange dragDriversSpec)) dragDriversCard

/-- THE SECOND FORM's CARD OF 'setsquarelaw45.DragDrivers'. -/
def dragDriversUptoCard : Claim7 := { stood := { row := dragDriversUptoRow, standIns := [], harness := (true, "0f45279a220dd9d3ec93ebbd4786a0a9191cb753c0afca230ae8dc37b398ad2e"), looks := false }, kinds := [], alts := [], laidByText := true, laidKinds := [.data, .data, .data, .data, .data, .data], laidTests := true, laidLooks := .later }
def DragDriversUptoCardSaid : Prop := Claim7.holds Tryz.pinned (.plain (OpenSpec.upto dragDriversSpec)) dragDriversUptoCard
end Rows
end Go.Proofs.YtmddjbmelajadaaGreatDoor
