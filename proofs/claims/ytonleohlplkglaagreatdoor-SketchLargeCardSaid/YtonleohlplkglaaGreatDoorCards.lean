/-
  DERIVED. GIVEN WITH THE SEED: THE CARDS: each row of YtonleohlplkglaaGreatDoorRows.lean that lists a variable, with what it lists TIED to the program's text (the seventh form; the later family's looks); each row that meets fmt, with fmt's text TOLD by the authors' own Lean function (tested against real Go, not proved from fmt's source: count such statements apart). THE CARD IS WHAT COUNTS. Prove the row's statement (the work); the ties are given (YtonleohlplkglaaGreatDoorTie.lean); close each card by the builder's one call (the guide's Derived/Test/ToyasCard.lean, 'card_holds'). Laid BY PROGRAM, IN A SANDBOX (cutbox-door.mjs). By AI agents, Wed Nov 11 2026. No macro, syntax, notation, axiom, sorry.
-/
import Derived.Test.YtonleohlplkglaaGreatDoorRows
import GoSem.ClaimSeven
namespace Go.Proofs.YtonleohlplkglaaGreatDoor
namespace Rows

/-- THE TIED CARD OF 'setsquarelaw26.SketchValid'. -/
def sketchValidCard : Claim7 := { stood := { row := sketchValidRow, standIns := [], harness := (true, "30c4fa5ff49027f6ca2ecef2bba0ad21c8463e5777ba99a09f274a6c3c2f5f1a"), looks := false }, kinds := [], alts := [], laidByText := true, laidKinds := [.data, .data, .data, .data, .data], laidTests := true, laidLooks := .later }
def SketchValidCardSaid : Prop := Claim7.holds Tryz.pinned (.plain (OpenSpec.ofChange sketchValidSpec)) sketchValidCard

/-- THE TIED CARD OF 'setsquarelaw26.SketchLarge'. -/
def sketchLargeCard : Claim7 := { stood := { row := sketchLargeRow, standIns := [], harness := (true, "30c4fa5ff49027f6ca2ecef2bba0ad21c8463e5777ba99a09f274a6c3c2f5f1a"), looks := false }, kinds := [], alts := [], laidByText := true, laidKinds := [.data, .data, .data, .data, .data], laidTests := true, laidLooks := .later }
def SketchLargeCardSaid : Prop := Claim7.holds Tryz.pinned (.plain (OpenSpec.ofChange sketchLargeSpec)) sketchLargeCard

/-- THE TIED CARD OF 'setsquarelaw26.SketchImplied'. -/
def sketchImpliedCard : Claim7 := { stood := { row := sketchImpliedRow, standIns := [], harness := (true, "30c4fa5ff49027f6ca2ecef2bba0ad21c8463e5777ba99a09f274a6c3c2f5f1a"), looks := false }, kinds := [], alts := [], laidByText := true, laidKinds := [.data, .data, .data, .data, .data], laidTests := true, laidLooks := .later }
def SketchImpliedCardSaid : Prop := Claim7.holds Tryz.pinned (.plain (OpenSpec.ofChange sketchImpliedSpec)) sketchImpliedCard

/-- THE TIED CARD OF 'setsquarelaw26.SketchUsers'. -/
def sketchUsersCard : Claim7 := { stood := { row := sketchUsersRow, standIns := [], harness := (true, "30c4fa5ff49027f6ca2ecef2bba0ad21c8463e5777ba99a09f274a6c3c2f5f1a"), looks := false }, kinds := [], alts := [], laidByText := true, laidKinds := [.data, .data, .data, .data, .data], laidTests := true, laidLooks := .later }
def SketchUsersCardSaid : Prop := Claim7.holds Tryz.pinned (.plain (OpenSpec.ofChange sketchUsersSpec)) sketchUsersCard

/-- THE TIED CARD OF 'setsquarelaw26.SketchLoop'. -/
def sketchLoopCard : Claim7 := { stood := { row := sketchLoopRow, standIns := [], harness := (true, "30c4fa5ff49027f6ca2ecef2bba0ad21c8463e5777ba99a09f274a6c3c2f5f1a"), looks := false }, kinds := [], alts := [], laidByText := true, laidKinds := [.data, .data, .data, .data, .data], laidTests := true, laidLooks := .later }
def SketchLoopCardSaid : Prop := Claim7.holds Tryz.pinned (.plain (OpenSpec.ofChange sketchLoopSpec)) sketchLoopCard

/-- THE TIED CARD OF 'setsquarelaw26.SketchRemoveConstraint'. -/
def sketchRemoveConstraintCard : Claim7 := { stood := { row := sketchRemoveConstraintRow, standIns := [], harness := (true, "30c4fa5ff49027f6ca2ecef2bba0ad21c8463e5777ba99a09f274a6c3c2f5f1a"), looks := false }, kinds := [], alts := [], laidByText := true, laidKinds := [.data, .data, .data, .data, .data], laidTests := true, laidLooks := .later }
def SketchRemoveConstraintCardSaid : Prop := Claim7.holds Tryz.pinned (.plain (OpenSpec.ofChange sketchRemoveConstraintSpec)) sketchRemoveConstraintCard

/-- THE TIED CARD OF 'setsquarelaw26.SketchRemovePoint'. -/
def sketchRemovePointCard : Claim7 := { stood := { row := sketchRemovePointRow, standIns := [], harness := (true, "30c4fa5ff49027f6ca2ecef2bba0ad21c8463e5777ba99a09f274a6c3c2f5f1a"), looks := false }, kinds := [], alts := [], laidByText := true, laidKinds := [.data, .data, .data, .data, .data], laidTests := true, laidLooks := .later }
def SketchRemovePointCardSaid : Prop := Claim7.holds Tryz.pinned (.plain (OpenSpec.ofChange sketchRemovePointSpec)) sketchRemovePointCard

/-- THE SECOND FORM's CARD OF 'setsquarelaw26.SketchValid'. -/
def sketchValidUptoCard : Claim7 := { stood := { row := sketchValidUptoRow, standIns := [], harness := (true, "30c4fa5ff49027f6ca2ecef2bba0ad21c8463e5777ba99a09f274a6c3c2f5f1a"), looks := false }, kinds := [], alts := [], laidByText := true, laidKinds := [.data, .data, .data, .data, .data], laidTests := true, laidLooks := .later }
def SketchValidUptoCardSaid : Prop := Claim7.holds Tryz.pinned (.plain (OpenSpec.upto sketchValidSpec)) sketchValidUptoCard

/-- THE SECOND FORM's CARD OF 'setsquarelaw26.SketchLarge'. -/
def sketchLargeUptoCard : Claim7 := { stood := { row := sketchLargeUptoRow, standIns := [], harness := (true, "30c4fa5ff49027f6ca2ecef2bba0ad21c8463e5777ba99a09f274a6c3c2f5f1a"), looks := false }, kinds := [], alts := [], laidByText := true, laidKinds := [.data, .data, .data, .data, .data], laidTests := true, laidLooks := .later }
def SketchLargeUptoCardSaid : Prop := Claim7.holds Tryz.pinned (.plain (OpenSpec.upto sketchLargeSpec)) sketchLargeUptoCard

/-- THE SECOND FORM's CARD OF 'setsquarelaw26.SketchImplied'. -/
def sketchImpliedUptoCard : Claim7 := { stood := { row := sketchImpliedUptoRow, standIns := [], harness := (true, "30c4fa5ff49027f6ca2ecef2bba0ad21c8463e5777ba99a09f274a6c3c2f5f1a"), looks := false }, kinds := [], alts := [], laidByText := true, laidKinds := [.data, .data, .data, .data, .data], laidTests := true, laidLooks := .later }
def SketchImpliedUptoCardSaid : Prop := Claim7.holds Tryz.pinned (.plain (OpenSpec.upto sketchImpliedSpec)) sketchImpliedUptoCard

/-- THE SECOND FORM's CARD OF 'setsquarelaw26.SketchUsers'. -/
def sketchUsersUptoCard : Claim7 := { stood := { row := sketchUsersUptoRow, standIns := [], harness := (true, "30c4fa5ff49027f6ca2ecef2bba0ad21c8463e5777ba99a09f274a6c3c2f5f1a"), looks := false }, kinds := [], alts := [], laidByText := true, laidKinds := [.data, .data, .data, .data, .data], laidTests := true, laidLooks := .later }
def SketchUsersUptoCardSaid : Prop := Claim7.holds Tryz.pinned (.plain (OpenSpec.upto sketchUsersSpec)) sketchUsersUptoCard

/-- THE SECOND FORM's CARD OF 'setsquarelaw26.SketchLoop'. -/
def sketchLoopUptoCard : Claim7 := { stood := { row := sketchLoopUptoRow, standIns := [], harness := (true, "30c4fa5ff49027f6ca2ecef2bba0ad21c8463e5777ba99a09f274a6c3c2f5f1a"), looks := false }, kinds := [], alts := [], laidByText := true, laidKinds := [.data, .data, .data, .data, .data], laidTests := true, laidLooks := .later }
def SketchLoopUptoCardSaid : Prop := Claim7.holds Tryz.pinned (.plain (OpenSpec.upto sketchLoopSpec)) sketchLoopUptoCard

/-- THE SECOND FORM's CARD OF 'setsquarelaw26.SketchRemoveConstraint'. -/
def sketchRemoveConstraintUptoCard : Claim7 := { stood := { row := sketchRemoveConstraintUptoRow, standIns := [], harness := (true, "30c4fa5ff49027f6ca2ecef2bba0ad21c8463e5777ba99a09f274a6c3c2f5f1a"), looks := false }, kinds := [], alts := [], laidByText := true, laidKinds := [.data, .data, .data, .data, .data], laidTests := true, laidLooks := .later }
def SketchRemoveConstraintUptoCardSaid : Prop := Claim7.holds Tryz.pinned (.plain (OpenSpec.upto sketchRemoveConstraintSpec)) sketchRemoveConstraintUptoCard

/-- THE SECOND FORM's CARD OF 'setsquarelaw26.SketchRemovePoint'. -/
def sketchRemovePointUptoCard : Claim7 := { stood := { row := sketchRemovePointUptoRow, standIns := [], harness := (true, "30c4fa5ff49027f6ca2ecef2bba0ad21c8463e5777ba99a09f274a6c3c2f5f1a"), looks := false }, kinds := [], alts := [], laidByText := true, laidKinds := [.data, .data, .data, .data, .data], laidTests := true, laidLooks := .later }
def SketchRemovePointUptoCardSaid : Prop := Claim7.holds Tryz.pinned (.plain (OpenSpec.upto sketchRemovePointSpec)) sketchRemovePointUptoCard
end Rows
end Go.Proofs.YtonleohlplkglaaGreatDoor
