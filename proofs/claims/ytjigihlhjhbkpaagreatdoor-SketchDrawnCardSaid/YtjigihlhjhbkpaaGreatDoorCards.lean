/-
  DERIVED. GIVEN WITH THE SEED: THE CARDS: each row of YtjigihlhjhbkpaaGreatDoorRows.lean that lists a variable, with what it lists TIED to the program's text (the seventh form; the later family's looks); each row that meets fmt, with fmt's text TOLD by the authors' own Lean function (tested against real Go, not proved from fmt's source: count such statements apart). THE CARD IS WHAT COUNTS. Prove the row's statement (the work); the ties are given (YtjigihlhjhbkpaaGreatDoorTie.lean); close each card by the builder's one call (the guide's Derived/Test/ToyasCard.lean, 'card_holds'). Laid BY PROGRAM, IN A SANDBOX (cutbox-door.mjs). By AI agents, Wed Nov 11 2026. No macro, syntax, notation, axiom, sorry.
-/
import Derived.Test.YtjigihlhjhbkpaaGreatDoorRows
import GoSem.ClaimSeven
namespace Go.Proofs.YtjigihlhjhbkpaaGreatDoor
namespace Rows

/-- THE TIED CARD OF 'setsquarelaw26.SketchDrawn'. -/
def sketchDrawnCard : Claim7 := { stood := { row := sketchDrawnRow, standIns := [], harness := (true, "e72ff54b3590d8979edbc940002116c46c9a13ba48b8afec9d69ba644a4e610d"), looks := false }, kinds := [], alts := [], laidByText := true, laidKinds := [.data, .data, .data, .data, .data], laidTests := true, laidLooks := .later }
def SketchDrawnCardSaid : Prop := Claim7.holds Tryz.pinned (.plain (OpenSpec.ofChange sketchDrawnSpec)) sketchDrawnCard

/-- THE SECOND FORM's CARD OF 'setsquarelaw26.SketchDrawn'. -/
def sketchDrawnUptoCard : Claim7 := { stood := { row := sketchDrawnUptoRow, standIns := [], harness := (true, "e72ff54b3590d8979edbc940002116c46c9a13ba48b8afec9d69ba644a4e610d"), looks := false }, kinds := [], alts := [], laidByText := true, laidKinds := [.data, .data, .data, .data, .data], laidTests := true, laidLooks := .later }
def SketchDrawnUptoCardSaid : Prop := Claim7.holds Tryz.pinned (.plain (OpenSpec.upto sketchDrawnSpec)) sketchDrawnUptoCard
end Rows
end Go.Proofs.YtjigihlhjhbkpaaGreatDoor
