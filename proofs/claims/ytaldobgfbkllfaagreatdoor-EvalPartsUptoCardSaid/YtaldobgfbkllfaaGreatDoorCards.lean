/-
  DERIVED. GIVEN WITH THE SEED: THE CARDS: each row of YtaldobgfbkllfaaGreatDoorRows.lean that lists a variable, with what it lists TIED to the program's text (the seventh form; the later family's looks); each row that meets fmt, with fmt's text TOLD by the authors' own Lean function (tested against real Go, not proved from fmt's source: count such statements apart). THE CARD IS WHAT COUNTS. Prove the row's statement (the work); the ties are given (YtaldobgfbkllfaaGreatDoorTie.lean); close each card by the builder's one call (the guide's Derived/Test/ToyasCard.lean, 'card_holds'). Laid BY PROGRAM, IN A SANDBOX (cutbox-door.mjs). By AI agents, Wed Nov 11 2026. No macro, syntax, notation, axiom, sorry.
-/
import Derived.Test.YtaldobgfbkllfaaGreatDoorRows
import GoSem.ClaimSeven
namespace Go.Proofs.YtaldobgfbkllfaaGreatDoor
namespace Rows

/-- THE TIED CARD OF 'pavanelaw14.EvalValues'. -/
def evalValuesCard : Claim7 := { stood := { row := evalValuesRow, standIns := [], harness := (true, "f6b6296f4be1d0c9eda9cef925ba576bf3e9613797ad8c35449bc618c48bae7c"), looks := true }, kinds := [], alts := [], laidByText := true, laidKinds := [.data, .data, .data, .sentinel, .sentinel], laidTests := true, laidLooks := .later }
def EvalValuesCardSaid : Prop := Claim7.holds Tryz.pinned (.plain (OpenSpec.ofChange evalValuesSpec)) evalValuesCard

/-- THE TIED CARD OF 'pavanelaw14.EvalNumbers'. -/
def evalNumbersCard : Claim7 := { stood := { row := evalNumbersRow, standIns := [], harness := (true, "f6b6296f4be1d0c9eda9cef925ba576bf3e9613797ad8c35449bc618c48bae7c"), looks := true }, kinds := [], alts := [], laidByText := true, laidKinds := [.data, .data, .data, .sentinel, .sentinel], laidTests := true, laidLooks := .later }
def EvalNumbersCardSaid : Prop := Claim7.holds Tryz.pinned (.plain (OpenSpec.ofChange evalNumbersSpec)) evalNumbersCard

/-- THE TIED CARD OF 'pavanelaw14.EvalHolds'. -/
def evalHoldsCard : Claim7 := { stood := { row := evalHoldsRow, standIns := [], harness := (true, "f6b6296f4be1d0c9eda9cef925ba576bf3e9613797ad8c35449bc618c48bae7c"), looks := true }, kinds := [], alts := [], laidByText := true, laidKinds := [.data, .data, .data, .data, .data, .sentinel, .sentinel], laidTests := true, laidLooks := .later }
def EvalHoldsCardSaid : Prop := Claim7.holds Tryz.pinned (.plain (OpenSpec.ofChange evalHoldsSpec)) evalHoldsCard

/-- THE TIED CARD OF 'pavanelaw14.EvalParts'. -/
def evalPartsCard : Claim7 := { stood := { row := evalPartsRow, standIns := [], harness := (true, "f6b6296f4be1d0c9eda9cef925ba576bf3e9613797ad8c35449bc618c48bae7c"), looks := true }, kinds := [], alts := [], laidByText := true, laidKinds := [.data, .data, .data, .sentinel, .sentinel], laidTests := true, laidLooks := .later }
def EvalPartsCardSaid : Prop := Claim7.holds Tryz.pinned (.plain (OpenSpec.ofChange evalPartsSpec)) evalPartsCard

/-- THE TIED CARD OF 'pavanelaw14.EvalTexts'. -/
def evalTextsCard : Claim7 := { stood := { row := evalTextsRow, standIns := [], harness := (true, "f6b6296f4be1d0c9eda9cef925ba576bf3e9613797ad8c35449bc618c48bae7c"), looks := true }, kinds := [], alts := [], laidByText := true, laidKinds := [.data, .data, .data, .sentinel, .sentinel], laidTests := true, laidLooks := .later }
def EvalTextsCardSaid : Prop := Claim7.holds Tryz.pinned (.plain (OpenSpec.ofChange evalTextsSpec)) evalTextsCard

/-- THE TIED CARD OF 'pavanelaw13.FormulaBack'. -/
def formulaBackCard : Claim7 := { stood := { row := formulaBackRow, standIns := [], harness := (true, "f6b6296f4be1d0c9eda9cef925ba576bf3e9613797ad8c35449bc618c48bae7c"), looks := true }, kinds := [], alts := [], laidByText := true, laidKinds := [.data, .data, .data, .sentinel, .sentinel], laidTests := true, laidLooks := .later }
def FormulaBackCardSaid : Prop := Claim7.holds Tryz.pinned (.plain (OpenSpec.ofChange formulaBackSpec)) formulaBackCard

/-- THE TIED CARD OF 'pavanelaw13.FormulaBrackets'. -/
def formulaBracketsCard : Claim7 := { stood := { row := formulaBracketsRow, standIns := [], harness := (true, "f6b6296f4be1d0c9eda9cef925ba576bf3e9613797ad8c35449bc618c48bae7c"), looks := true }, kinds := [], alts := [], laidByText := true, laidKinds := [.data, .data, .data, .sentinel, .sentinel], laidTests := true, laidLooks := .later }
def FormulaBracketsCardSaid : Prop := Claim7.holds Tryz.pinned (.plain (OpenSpec.ofChange formulaBracketsSpec)) formulaBracketsCard

/-- THE TIED CARD OF 'pavanelaw13.FormulaBinds'. -/
def formulaBindsCard : Claim7 := { stood := { row := formulaBindsRow, standIns := [], harness := (true, "f6b6296f4be1d0c9eda9cef925ba576bf3e9613797ad8c35449bc618c48bae7c"), looks := true }, kinds := [], alts := [], laidByText := true, laidKinds := [.data, .data, .data, .data, .sentinel, .sentinel], laidTests := true, laidLooks := .later }
def FormulaBindsCardSaid : Prop := Claim7.holds Tryz.pinned (.plain (OpenSpec.ofChange formulaBindsSpec)) formulaBindsCard

/-- THE TIED CARD OF 'pavanelaw13.FormulaKeeps'. -/
def formulaKeepsCard : Claim7 := { stood := { row := formulaKeepsRow, standIns := [], harness := (true, "f6b6296f4be1d0c9eda9cef925ba576bf3e9613797ad8c35449bc618c48bae7c"), looks := true }, kinds := [], alts := [], laidByText := true, laidKinds := [.data, .data, .data, .data, .data, .sentinel, .sentinel], laidTests := true, laidLooks := .later }
def FormulaKeepsCardSaid : Prop := Claim7.holds Tryz.pinned (.plain (OpenSpec.ofChange formulaKeepsSpec)) formulaKeepsCard

/-- THE TIED CARD OF 'pavanelaw14.EvalDoes'. -/
def evalDoesCard : Claim7 := { stood := { row := evalDoesRow, standIns := [], harness := (true, "f6b6296f4be1d0c9eda9cef925ba576bf3e9613797ad8c35449bc618c48bae7c"), looks := true }, kinds := [], alts := [], laidByText := true, laidKinds := [.data, .data, .data, .data, .data, .sentinel, .sentinel], laidTests := true, laidLooks := .later }
def EvalDoesCardSaid : Prop := Claim7.holds Tryz.pinned (.plain (OpenSpec.ofChange evalDoesSpec)) evalDoesCard

/-- THE TIED CARD OF 'pavanelaw14.EvalKeeps'. -/
def evalKeepsCard : Claim7 := { stood := { row := evalKeepsRow, standIns := [], harness := (true, "f6b6296f4be1d0c9eda9cef925ba576bf3e9613797ad8c35449bc618c48bae7c"), looks := true }, kinds := [], alts := [], laidByText := true, laidKinds := [.data, .data, .data, .sentinel, .sentinel], laidTests := true, laidLooks := .later }
def EvalKeepsCardSaid : Prop := Claim7.holds Tryz.pinned (.plain (OpenSpec.ofChange evalKeepsSpec)) evalKeepsCard

/-- THE SECOND FORM's CARD OF 'pavanelaw14.EvalValues'. -/
def evalValuesUptoCard : Claim7 := { stood := { row := evalValuesUptoRow, standIns := [], harness := (true, "f6b6296f4be1d0c9eda9cef925ba576bf3e9613797ad8c35449bc618c48bae7c"), looks := true }, kinds := [], alts := [], laidByText := true, laidKinds := [.data, .data, .data, .sentinel, .sentinel], laidTests := true, laidLooks := .later }
def EvalValuesUptoCardSaid : Prop := Claim7.holds Tryz.pinned (.plain (OpenSpec.upto evalValuesSpec)) evalValuesUptoCard

/-- THE SECOND FORM's CARD OF 'pavanelaw14.EvalNumbers'. -/
def evalNumbersUptoCard : Claim7 := { stood := { row := evalNumbersUptoRow, standIns := [], harness := (true, "f6b6296f4be1d0c9eda9cef925ba576bf3e9613797ad8c35449bc618c48bae7c"), looks := true }, kinds := [], alts := [], laidByText := true, laidKinds := [.data, .data, .data, .sentinel, .sentinel], laidTests := true, laidLooks := .later }
def EvalNumbersUptoCardSaid : Prop := Claim7.holds Tryz.pinned (.plain (OpenSpec.upto evalNumbersSpec)) evalNumbersUptoCard

/-- THE SECOND FORM's CARD OF 'pavanelaw14.EvalHolds'. -/
def evalHoldsUptoCard : Claim7 := { stood := { row := evalHoldsUptoRow, standIns := [], harness := (true, "f6b6296f4be1d0c9eda9cef925ba576bf3e9613797ad8c35449bc618c48bae7c"), looks := true }, kinds := [], alts := [], laidByText := true, laidKinds := [.data, .data, .data, .data, .data, .sentinel, .sentinel], laidTests := true, laidLooks := .later }
def EvalHoldsUptoCardSaid : Prop := Claim7.holds Tryz.pinned (.plain (OpenSpec.upto evalHoldsSpec)) evalHoldsUptoCard

/-- THE SECOND FORM's CARD OF 'pavanelaw14.EvalParts'. -/
def evalPartsUptoCard : Claim7 := { stood := { row := evalPartsUptoRow, standIns := [], harness := (true, "f6b6296f4be1d0c9eda9cef925ba576bf3e9613797ad8c35449bc618c48bae7c"), looks := true }, kinds := [], alts := [], laidByText := true, laidKinds := [.data, .data, .data, .sentinel, .sentinel], laidTests := true, laidLooks := .later }
def EvalPartsUptoCardSaid : Prop := Claim7.holds Tryz.pinned (.plain (OpenSpec.upto evalPartsSpec)) evalPartsUptoCard

/-- THE SECOND FORM's CARD OF 'pavanelaw14.EvalTexts'. -/
def evalTextsUptoCard : Claim7 := { stood := { row := evalTextsUptoRow, standIns := [], harness := (true, "f6b6296f4be1d0c9eda9cef925ba576bf3e9613797ad8c35449bc618c48bae7c"), looks := true }, kinds := [], alts := [], laidByText := true, laidKinds := [.data, .data, .data, .sentinel, .sentinel], laidTests := true, laidLooks := .later }
def EvalTextsUptoCardSaid : Prop := Claim7.holds Tryz.pinned (.plain (OpenSpec.upto evalTextsSpec)) evalTextsUptoCard

/-- THE SECOND FORM's CARD OF 'pavanelaw13.FormulaBack'. -/
def formulaBackUptoCard : Claim7 := { stood := { row := formulaBackUptoRow, standIns := [], harness := (true, "f6b6296f4be1d0c9eda9cef925ba576bf3e9613797ad8c35449bc618c48bae7c"), looks := true }, kinds := [], alts := [], laidByText := true, laidKinds := [.data, .data, .data, .sentinel, .sentinel], laidTests := true, laidLooks := .later }
def FormulaBackUptoCardSaid : Prop := Claim7.holds Tryz.pinned (.plain (OpenSpec.upto formulaBackSpec)) formulaBackUptoCard

/-- THE SECOND FORM's CARD OF 'pavanelaw13.FormulaBrackets'. -/
def formulaBracketsUptoCard : Claim7 := { stood := { row := formulaBracketsUptoRow, standIns := [], harness := (true, "f6b6296f4be1d0c9eda9cef925ba576bf3e9613797ad8c35449bc618c48bae7c"), looks := true }, kinds := [], alts := [], laidByText := true, laidKinds := [.data, .data, .data, .sentinel, .sentinel], laidTests := true, laidLooks := .later }
def FormulaBracketsUptoCardSaid : Prop := Claim7.holds Tryz.pinned (.plain (OpenSpec.upto formulaBracketsSpec)) formulaBracketsUptoCard

/-- THE SECOND FORM's CARD OF 'pavanelaw13.FormulaBinds'. -/
def formulaBindsUptoCard : Claim7 := { stood := { row := formulaBindsUptoRow, standIns := [], harness := (true, "f6b6296f4be1d0c9eda9cef925ba576bf3e9613797ad8c35449bc618c48bae7c"), looks := true }, kinds := [], alts := [], laidByText := true, laidKinds := [.data, .data, .data, .data, .sentinel, .sentinel], laidTests := true, laidLooks := .later }
def FormulaBindsUptoCardSaid : Prop := Claim7.holds Tryz.pinned (.plain (OpenSpec.upto formulaBindsSpec)) formulaBindsUptoCard

/-- THE SECOND FORM's CARD OF 'pavanelaw13.FormulaKeeps'. -/
def formulaKeepsUptoCard : Claim7 := { stood := { row := formulaKeepsUptoRow, standIns := [], harness := (true, "f6b6296f4be1d0c9eda9cef925ba576bf3e9613797ad8c35449bc618c48bae7c"), looks := true }, kinds := [], alts := [], laidByText := true, laidKinds := [.data, .data, .data, .data, .data, .sentinel, .sentinel], laidTests := true, laidLooks := .later }
def FormulaKeepsUptoCardSaid : Prop := Claim7.holds Tryz.pinned (.plain (OpenSpec.upto formulaKeepsSpec)) formulaKeepsUptoCard

/-- THE SECOND FORM's CARD OF 'pavanelaw14.EvalDoes'. -/
def evalDoesUptoCard : Claim7 := { stood := { row := evalDoesUptoRow, standIns := [], harness := (true, "f6b6296f4be1d0c9eda9cef925ba576bf3e9613797ad8c35449bc618c48bae7c"), looks := true }, kinds := [], alts := [], laidByText := true, laidKinds := [.data, .data, .data, .data, .data, .sentinel, .sentinel], laidTests := true, laidLooks := .later }
def EvalDoesUptoCardSaid : Prop := Claim7.holds Tryz.pinned (.plain (OpenSpec.upto evalDoesSpec)) evalDoesUptoCard

/-- THE SECOND FORM's CARD OF 'pavanelaw14.EvalKeeps'. -/
def evalKeepsUptoCard : Claim7 := { stood := { row := evalKeepsUptoRow, standIns := [], harness := (true, "f6b6296f4be1d0c9eda9cef925ba576bf3e9613797ad8c35449bc618c48bae7c"), looks := true }, kinds := [], alts := [], laidByText := true, laidKinds := [.data, .data, .data, .sentinel, .sentinel], laidTests := true, laidLooks := .later }
def EvalKeepsUptoCardSaid : Prop := Claim7.holds Tryz.pinned (.plain (OpenSpec.upto evalKeepsSpec)) evalKeepsUptoCard
end Rows
end Go.Proofs.YtaldobgfbkllfaaGreatDoor
