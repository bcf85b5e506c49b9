/-
  DERIVED. GIVEN WITH THE SEED: THE CARDS: each row of YtmjoaipkaddkbaaGreatDoorRows.lean that lists a variable, with what it lists TIED to the program's text (the seventh form; the later family's looks); each row that meets fmt, with fmt's text TOLD by the authors' own Lean function (tested against real Go, not proved from fmt's source: count such statements apart). THE CARD IS WHAT COUNTS. Prove the row's statement (the work); the ties are given (YtmjoaipkaddkbaaGreatDoorTie.lean); close each card by the builder's one call (the guide's Derived/Test/ToyasCard.lean, 'card_holds'). Laid BY PROGRAM, IN A SANDBOX (cutbox-door.mjs). By AI agents, Wed Nov 11 2026. No macro, syntax, notation, axiom, sorry.
-/
import Derived.Test.YtmjoaipkaddkbaaGreatDoorRows
import GoSem.ClaimSeven
namespace Go.Proofs.YtmjoaipkaddkbaaGreatDoor
namespace Rows

/-- THE TIED CARD OF 'setsquarelaw10.AlgebraicText'. -/
def algebraicTextCard : Claim7 := { stood := { row := algebraicTextRow, standIns := [], harness := (true, "c80e831063550d5b4359cc90f5051aa5a9d48a67f4f394015e82543d8bde7108"), looks := true }, kinds := [], alts := [], laidByText := true, laidKinds := [.data, .data, .data, .data, .sentinel, .sentinel, .pinned], laidTests := true, laidLooks := .later }
def AlgebraicTextCardSaid : Prop := Claim7.holds Tryz.pinned (.plain (OpenSpec.ofChange algebraicTextSpec)) algebraicTextCard

/-- THE TIED CARD OF 'setsquarelaw10.AlgebraicParse'. -/
def algebraicParseCard : Claim7 := { stood := { row := algebraicParseRow, standIns := [], harness := (true, "c80e831063550d5b4359cc90f5051aa5a9d48a67f4f394015e82543d8bde7108"), looks := true }, kinds := [], alts := [], laidByText := true, laidKinds := [.data, .data, .data, .data, .sentinel, .sentinel, .pinned], laidTests := true, laidLooks := .later }
def AlgebraicParseCardSaid : Prop := Claim7.holds Tryz.pinned (.plain (OpenSpec.ofChange algebraicParseSpec)) algebraicParseCard

/-- THE SECOND FORM's CARD OF 'setsquarelaw10.AlgebraicText'. -/
def algebraicTextUptoCard : Claim7 := { stood := { row := algebraicTextUptoRow, standIns := [], harness := (true, "c80e831063550d5b4359cc90f5051aa5a9d48a67f4f394015e82543d8bde7108"), looks := true }, kinds := [], alts := [], laidByText := true, laidKinds := [.data, .data, .data, .data, .sentinel, .sentinel, .pinned], laidTests := true, laidLooks := .later }
def AlgebraicTextUptoCardSaid : Prop := Claim7.holds Tryz.pinned (.plain (OpenSpec.upto algebraicTextSpec)) algebraicTextUptoCard

/-- THE SECOND FORM's CARD OF 'setsquarelaw10.AlgebraicParse'. -/
def algebraicParseUptoCard : Claim7 := { stood := { row := algebraicParseUptoRow, standIns := [], harness := (true, "c80e831063550d5b4359cc90f5051aa5a9d48a67f4f394015e82543d8bde7108"), looks := true }, kinds := [], alts := [], laidByText := true, laidKinds := [.data, .data, .data, .data, .sentinel, .sentinel, .pinned], laidTests := true, laidLooks := .later }
def AlgebraicParseUptoCardSaid : Prop := Claim7.holds Tryz.pinned (.plain (OpenSpec.upto algebraicParseSpec)) algebraicParseUptoCard
end Rows
end Go.Proofs.YtmjoaipkaddkbaaGreatDoor
