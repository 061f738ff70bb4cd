/-
  DERIVED. GIVEN WITH THE SEED: THE CARDS: each row of YtlcbhhmnfmeoeaaDoorRows.lean that lists a variable, with what it lists TIED to the program's text (the seventh form; the later family's looks); each row that meets fmt, with fmt's text TOLD by the authors' own Lean function (tested against real Go, not proved from fmt's source: count such statements apart). THE CARD IS WHAT COUNTS. Prove the row's statement (the work); the ties are given (YtlcbhhmnfmeoeaaDoorTie.lean); close each card by the builder's one call (the guide's Derived/Test/ToyasCard.lean, 'card_holds'). Laid BY PROGRAM, IN A SANDBOX (cutbox-door.mjs). By AI agents, Wed Nov 11 2026. No macro, syntax, notation, axiom, sorry.
-/
import Derived.Test.YtlcbhhmnfmeoeaaDoorRows
import GoSem.ClaimSeven
namespace Go.Proofs.YtlcbhhmnfmeoeaaDoor
namespace Rows

/-- THE TIED CARD OF 'pavanelaw12.LexerReads'. -/
def lexerReadsCard : Claim7 := { stood := { row := lexerReadsRow, standIns := [], harness := (true, "da8177b4f10c1c08bf32ccd79107bce74b281b5c24ad7dbf7cb567c38d6ae475"), looks := true }, kinds := [], alts := [], laidByText := true, laidKinds := [.data, .data, .data, .sentinel, .sentinel], laidTests := true, laidLooks := .later }
def LexerReadsCardSaid : Prop := Claim7.holds Tryd.pinned (.plain (OpenSpec.ofChange lexerReadsSpec)) lexerReadsCard

/-- THE TIED CARD OF 'pavanelaw12.LexerBack'. -/
def lexerBackCard : Claim7 := { stood := { row := lexerBackRow, standIns := [], harness := (true, "da8177b4f10c1c08bf32ccd79107bce74b281b5c24ad7dbf7cb567c38d6ae475"), looks := true }, kinds := [], alts := [], laidByText := true, laidKinds := [.data, .data, .data, .sentinel, .sentinel], laidTests := true, laidLooks := .later }
def LexerBackCardSaid : Prop := Claim7.holds Tryd.pinned (.plain (OpenSpec.ofChange lexerBackSpec)) lexerBackCard

/-- THE TIED CARD OF 'pavanelaw12.LexerSplits'. -/
def lexerSplitsCard : Claim7 := { stood := { row := lexerSplitsRow, standIns := [], harness := (true, "da8177b4f10c1c08bf32ccd79107bce74b281b5c24ad7dbf7cb567c38d6ae475"), looks := true }, kinds := [], alts := [], laidByText := true, laidKinds := [.data, .data, .data, .sentinel, .sentinel], laidTests := true, laidLooks := .later }
def LexerSplitsCardSaid : Prop := Claim7.holds Tryd.pinned (.plain (OpenSpec.ofChange lexerSplitsSpec)) lexerSplitsCard

/-- THE TIED CARD OF 'pavanelaw12.LexerNumbers'. -/
def lexerNumbersCard : Claim7 := { stood := { row := lexerNumbersRow, standIns := [], harness := (true, "da8177b4f10c1c08bf32ccd79107bce74b281b5c24ad7dbf7cb567c38d6ae475"), looks := true }, kinds := [], alts := [], laidByText := true, laidKinds := [.data, .data, .data, .sentinel, .sentinel], laidTests := true, laidLooks := .later }
def LexerNumbersCardSaid : Prop := Claim7.holds Tryd.pinned (.plain (OpenSpec.ofChange lexerNumbersSpec)) lexerNumbersCard

/-- THE TIED CARD OF 'pavanelaw12.LexerTexts'. -/
def lexerTextsCard : Claim7 := { stood := { row := lexerTextsRow, standIns := [], harness := (true, "da8177b4f10c1c08bf32ccd79107bce74b281b5c24ad7dbf7cb567c38d6ae475"), looks := true }, kinds := [], alts := [], laidByText := true, laidKinds := [.data, .data, .data, .sentinel, .sentinel], laidTests := true, laidLooks := .later }
def LexerTextsCardSaid : Prop := Claim7.holds Tryd.pinned (.plain (OpenSpec.ofChange lexerTextsSpec)) lexerTextsCard

/-- THE TIED CARD OF 'pavanelaw12.LexerKeeps'. -/
def lexerKeepsCard : Claim7 := { stood := { row := lexerKeepsRow, standIns := [], harness := (true, "da8177b4f10c1c08bf32ccd79107bce74b281b5c24ad7dbf7cb567c38d6ae475"), looks := true }, kinds := [], alts := [], laidByText := true, laidKinds := [.data, .data, .data, .sentinel, .sentinel], laidTests := true, laidLooks := .later }
def LexerKeepsCardSaid : Prop := Claim7.holds Tryd.pinned (.plain (OpenSpec.ofChange lexerKeepsSpec)) lexerKeepsCard

/-- THE SECOND FORM's CARD OF 'pavanelaw12.LexerReads'. -/
def lexerReadsUptoCard : Claim7 := { stood := { row := lexerReadsUptoRow, standIns := [], harness := (true, "da8177b4f10c1c08bf32ccd79107bce74b281b5c24ad7dbf7cb567c38d6ae475"), looks := true }, kinds := [], alts := [], laidByText := true, laidKinds := [.data, .data, .data, .sentinel, .sentinel], laidTests := true, laidLooks := .later }
def LexerReadsUptoCardSaid : Prop := Claim7.holds Tryd.pinned (.plain (OpenSpec.upto lexerReadsSpec)) lexerReadsUptoCard

/-- THE SECOND FORM's CARD OF 'pavanelaw12.LexerBack'. -/
def lexerBackUptoCard : Claim7 := { stood := { row := lexerBackUptoRow, standIns := [], harness := (true, "da8177b4f10c1c08bf32ccd79107bce74b281b5c24ad7dbf7cb567c38d6ae475"), looks := true }, kinds := [], alts := [], laidByText := true, laidKinds := [.data, .data, .data, .sentinel, .sentinel], laidTests := true, laidLooks := .later }
def LexerBackUptoCardSaid : Prop := Claim7.holds Tryd.pinned (.plain (OpenSpec.upto lexerBackSpec)) lexerBackUptoCard

/-- THE SECOND FORM's CARD OF 'pavanelaw12.LexerSplits'. -/
def lexerSplitsUptoCard : Claim7 := { stood := { row := lexerSplitsUptoRow, standIns := [], harness := (true, "da8177b4f10c1c08bf32ccd79107bce74b281b5c24ad7dbf7cb567c38d6ae475"), looks := true }, kinds := [], alts := [], laidByText := true, laidKinds := [.data, .data, .data, .sentinel, .sentinel], laidTests := true, laidLooks := .later }
def LexerSplitsUptoCardSaid : Prop := Claim7.holds Tryd.pinned (.plain (OpenSpec.upto lexerSplitsSpec)) lexerSplitsUptoCard

/-- THE SECOND FORM's CARD OF 'pavanelaw12.LexerNumbers'. -/
def lexerNumbersUptoCard : Claim7 := { stood := { row := lexerNumbersUptoRow, standIns := [], harness := (true, "da8177b4f10c1c08bf32ccd79107bce74b281b5c24ad7dbf7cb567c38d6ae475"), looks := true }, kinds := [], alts := [], laidByText := true, laidKinds := [.data, .data, .data, .sentinel, .sentinel], laidTests := true, laidLooks := .later }
def LexerNumbersUptoCardSaid : Prop := Claim7.holds Tryd.pinned (.plain (OpenSpec.upto lexerNumbersSpec)) lexerNumbersUptoCard

/-- THE SECOND FORM's CARD OF 'pavanelaw12.LexerTexts'. -/
def lexerTextsUptoCard : Claim7 := { stood := { row := lexerTextsUptoRow, standIns := [], harness := (true, "da8177b4f10c1c08bf32ccd79107bce74b281b5c24ad7dbf7cb567c38d6ae475"), looks := true }, kinds := [], alts := [], laidByText := true, laidKinds := [.data, .data, .data, .sentinel, .sentinel], laidTests := true, laidLooks := .later }
def LexerTextsUptoCardSaid : Prop := Claim7.holds Tryd.pinned (.plain (OpenSpec.upto lexerTextsSpec)) lexerTextsUptoCard

/-- THE SECOND FORM's CARD OF 'pavanelaw12.LexerKeeps'. -/
def lexerKeepsUptoCard : Claim7 := { stood := { row := lexerKeepsUptoRow, standIns := [], harness := (true, "da8177b4f10c1c08bf32ccd79107bce74b281b5c24ad7dbf7cb567c38d6ae475"), looks := true }, kinds := [], alts := [], laidByText := true, laidKinds := [.data, .data, .data, .sentinel, .sentinel], laidTests := true, laidLooks := .later }
def LexerKeepsUptoCardSaid : Prop := Claim7.holds Tryd.pinned (.plain (OpenSpec.upto lexerKeepsSpec)) lexerKeepsUptoCard
end Rows
end Go.Proofs.YtlcbhhmnfmeoeaaDoor
