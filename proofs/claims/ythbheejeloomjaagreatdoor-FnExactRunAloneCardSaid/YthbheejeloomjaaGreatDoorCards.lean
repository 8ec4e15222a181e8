/-
  DERIVED. GIVEN WITH THE SEED: THE CARDS: each row of YthbheejeloomjaaGreatDoorRows.lean that lists a variable, with what it lists TIED to the program's text (the seventh form; the later family's looks); each row that meets fmt, with fmt's text TOLD by the authors' own Lean function (tested against real Go, not proved from fmt's source: count such statements apart). THE CARD IS WHAT COUNTS. Prove the row's statement (the work); the ties are given (YthbheejeloomjaaGreatDoorTie.lean); close each card by the builder's one call (the guide's Derived/Test/ToyasCard.lean, 'card_holds'). Laid BY PROGRAM, IN A SANDBOX (cutbox-door.mjs). By AI agents, Wed Nov 11 2026. No macro, syntax, notation, axiom, sorry.
-/
import Derived.Test.YthbheejeloomjaaGreatDoorRows
import GoSem.ClaimSeven
namespace Go.Proofs.YthbheejeloomjaaGreatDoor
namespace Rows

/-- THE TIED CARD OF 'laws.FnExactStepOps'. -/
def fnExactStepOpsCard : Claim7 := { stood := { row := fnExactStepOpsRow, standIns := [], harness := (true, "d57754b58650c51802a7238e321bbc8cb526d1fc01615cfb720edc2fc6255eaf"), looks := true }, kinds := [], alts := [], laidByText := true, laidKinds := [.data, .data, .data, .sentinel, .sentinel], laidTests := true, laidLooks := .later }
def FnExactStepOpsCardSaid : Prop := Claim7.holds Tryz.pinned (.plain (OpenSpec.ofChange fnExactStepOpsSpec)) fnExactStepOpsCard

/-- THE TIED CARD OF 'laws.FnExactRunAlone'. -/
def fnExactRunAloneCard : Claim7 := { stood := { row := fnExactRunAloneRow, standIns := [], harness := (true, "d57754b58650c51802a7238e321bbc8cb526d1fc01615cfb720edc2fc6255eaf"), looks := true }, kinds := [], alts := [], laidByText := true, laidKinds := [.data, .data, .data, .sentinel, .sentinel], laidTests := true, laidLooks := .later }
def FnExactRunAloneCardSaid : Prop := Claim7.holds Tryz.pinned (.plain (OpenSpec.ofChange fnExactRunAloneSpec)) fnExactRunAloneCard

/-- THE TIED CARD OF 'laws.FnExactRunInTurn'. -/
def fnExactRunInTurnCard : Claim7 := { stood := { row := fnExactRunInTurnRow, standIns := [], harness := (true, "d57754b58650c51802a7238e321bbc8cb526d1fc01615cfb720edc2fc6255eaf"), looks := true }, kinds := [], alts := [], laidByText := true, laidKinds := [.data, .data, .data, .sentinel, .sentinel], laidTests := true, laidLooks := .later }
def FnExactRunInTurnCardSaid : Prop := Claim7.holds Tryz.pinned (.plain (OpenSpec.ofChange fnExactRunInTurnSpec)) fnExactRunInTurnCard

/-- THE SECOND FORM's CARD OF 'laws.FnExactStepOps'. -/
def fnExactStepOpsUptoCard : Claim7 := { stood := { row := fnExactStepOpsUptoRow, standIns := [], harness := (true, "d57754b58650c51802a7238e321bbc8cb526d1fc01615cfb720edc2fc6255eaf"), looks := true }, kinds := [], alts := [], laidByText := true, laidKinds := [.data, .data, .data, .sentinel, .sentinel], laidTests := true, laidLooks := .later }
def FnExactStepOpsUptoCardSaid : Prop := Claim7.holds Tryz.pinned (.plain (OpenSpec.upto fnExactStepOpsSpec)) fnExactStepOpsUptoCard

/-- THE SECOND FORM's CARD OF 'laws.FnExactRunAlone'. -/
def fnExactRunAloneUptoCard : Claim7 := { stood := { row := fnExactRunAloneUptoRow, standIns := [], harness := (true, "d57754b58650c51802a7238e321bbc8cb526d1fc01615cfb720edc2fc6255eaf"), looks := true }, kinds := [], alts := [], laidByText := true, laidKinds := [.data, .data, .data, .sentinel, .sentinel], laidTests := true, laidLooks := .later }
def FnExactRunAloneUptoCardSaid : Prop := Claim7.holds Tryz.pinned (.plain (OpenSpec.upto fnExactRunAloneSpec)) fnExactRunAloneUptoCard

/-- THE SECOND FORM's CARD OF 'laws.FnExactRunInTurn'. -/
def fnExactRunInTurnUptoCard : Claim7 := { stood := { row := fnExactRunInTurnUptoRow, standIns := [], harness := (true, "d57754b58650c51802a7238e321bbc8cb526d1fc01615cfb720edc2fc6255eaf"), looks := true }, kinds := [], alts := [], laidByText := true, laidKinds := [.data, .data, .data, .sentinel, .sentinel], laidTests := true, laidLooks := .later }
def FnExactRunInTurnUptoCardSaid : Prop := Claim7.holds Tryz.pinned (.plain (OpenSpec.upto fnExactRunInTurnSpec)) fnExactRunInTurnUptoCard
end Rows
end Go.Proofs.YthbheejeloomjaaGreatDoor
