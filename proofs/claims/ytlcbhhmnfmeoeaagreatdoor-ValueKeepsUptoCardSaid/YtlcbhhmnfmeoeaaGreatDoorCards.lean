/-
  DERIVED. GIVEN WITH THE SEED: THE CARDS: each row of YtlcbhhmnfmeoeaaGreatDoorRows.lean that lists a variable, with what it lists TIED to the program's text (the seventh form; the later family's looks); each row that meets fmt, with fmt's text TOLD by the authors' own Lean function (tested against real Go, not proved from fmt's source: count such statements apart). THE CARD IS WHAT COUNTS. Prove the row's statement (the work); the ties are given (YtlcbhhmnfmeoeaaGreatDoorTie.lean); close each card by the builder's one call (the guide's Derived/Test/ToyasCard.lean, 'card_holds'). Laid BY PROGRAM, IN A SANDBOX (cutbox-door.mjs). By AI agents, Wed Nov 11 2026. No macro, syntax, notation, axiom, sorry.
-/
import Derived.Test.YtlcbhhmnfmeoeaaGreatDoorRows
import GoSem.ClaimSeven
namespace Go.Proofs.YtlcbhhmnfmeoeaaGreatDoor
namespace Rows

/-- THE TIED CARD OF 'pavanelaw11.ValueParses'. -/
def valueParsesCard : Claim7 := { stood := { row := valueParsesRow, standIns := [], harness := (true, "454392e23f468c60332b075130d80b83e821cc339fa8dddd486f160cf839b0d6"), looks := true }, kinds := [], alts := [], laidByText := true, laidKinds := [.data, .data, .data, .sentinel, .sentinel], laidTests := true, laidLooks := .later }
def ValueParsesCardSaid : Prop := Claim7.holds Tryz.pinned (.plain (OpenSpec.ofChange valueParsesSpec)) valueParsesCard

/-- THE TIED CARD OF 'pavanelaw11.ValueBack'. -/
def valueBackCard : Claim7 := { stood := { row := valueBackRow, standIns := [], harness := (true, "454392e23f468c60332b075130d80b83e821cc339fa8dddd486f160cf839b0d6"), looks := true }, kinds := [], alts := [], laidByText := true, laidKinds := [.data, .data, .data, .sentinel, .sentinel], laidTests := true, laidLooks := .later }
def ValueBackCardSaid : Prop := Claim7.holds Tryz.pinned (.plain (OpenSpec.ofChange valueBackSpec)) valueBackCard

/-- THE TIED CARD OF 'pavanelaw11.ValueKeeps'. -/
def valueKeepsCard : Claim7 := { stood := { row := valueKeepsRow, standIns := [], harness := (true, "454392e23f468c60332b075130d80b83e821cc339fa8dddd486f160cf839b0d6"), looks := true }, kinds := [], alts := [], laidByText := true, laidKinds := [.data, .data, .data, .sentinel, .sentinel], laidTests := true, laidLooks := .later }
def ValueKeepsCardSaid : Prop := Claim7.holds Tryz.pinned (.plain (OpenSpec.ofChange valueKeepsSpec)) valueKeepsCard

/-- THE TIED CARD OF 'pavanelaw11.ValueMay'. -/
def valueMayCard : Claim7 := { stood := { row := valueMayRow, standIns := [], harness := (true, "454392e23f468c60332b075130d80b83e821cc339fa8dddd486f160cf839b0d6"), looks := true }, kinds := [], alts := [], laidByText := true, laidKinds := [.data, .data, .data, .sentinel, .sentinel], laidTests := true, laidLooks := .later }
def ValueMayCardSaid : Prop := Claim7.holds Tryz.pinned (.plain (OpenSpec.ofChange valueMaySpec)) valueMayCard

/-- THE TIED CARD OF 'pavanelaw11.ValueVars'. -/
def valueVarsCard : Claim7 := { stood := { row := valueVarsRow, standIns := [], harness := (true, "454392e23f468c60332b075130d80b83e821cc339fa8dddd486f160cf839b0d6"), looks := true }, kinds := [], alts := [], laidByText := true, laidKinds := [.data, .data, .data, .sentinel, .sentinel], laidTests := true, laidLooks := .later }
def ValueVarsCardSaid : Prop := Claim7.holds Tryz.pinned (.plain (OpenSpec.ofChange valueVarsSpec)) valueVarsCard

/-- THE TIED CARD OF 'pavanelaw11.ValueWith'. -/
def valueWithCard : Claim7 := { stood := { row := valueWithRow, standIns := [], harness := (true, "454392e23f468c60332b075130d80b83e821cc339fa8dddd486f160cf839b0d6"), looks := true }, kinds := [], alts := [], laidByText := true, laidKinds := [.data, .data, .data, .sentinel, .sentinel], laidTests := true, laidLooks := .later }
def ValueWithCardSaid : Prop := Claim7.holds Tryz.pinned (.plain (OpenSpec.ofChange valueWithSpec)) valueWithCard

/-- THE SECOND FORM's CARD OF 'pavanelaw11.ValueParses'. -/
def valueParsesUptoCard : Claim7 := { stood := { row := valueParsesUptoRow, standIns := [], harness := (true, "454392e23f468c60332b075130d80b83e821cc339fa8dddd486f160cf839b0d6"), looks := true }, kinds := [], alts := [], laidByText := true, laidKinds := [.data, .data, .data, .sentinel, .sentinel], laidTests := true, laidLooks := .later }
def ValueParsesUptoCardSaid : Prop := Claim7.holds Tryz.pinned (.plain (OpenSpec.upto valueParsesSpec)) valueParsesUptoCard

/-- THE SECOND FORM's CARD OF 'pavanelaw11.ValueBack'. -/
def valueBackUptoCard : Claim7 := { stood := { row := valueBackUptoRow, standIns := [], harness := (true, "454392e23f468c60332b075130d80b83e821cc339fa8dddd486f160cf839b0d6"), looks := true }, kinds := [], alts := [], laidByText := true, laidKinds := [.data, .data, .data, .sentinel, .sentinel], laidTests := true, laidLooks := .later }
def ValueBackUptoCardSaid : Prop := Claim7.holds Tryz.pinned (.plain (OpenSpec.upto valueBackSpec)) valueBackUptoCard

/-- THE SECOND FORM's CARD OF 'pavanelaw11.ValueKeeps'. -/
def valueKeepsUptoCard : Claim7 := { stood := { row := valueKeepsUptoRow, standIns := [], harness := (true, "454392e23f468c60332b075130d80b83e821cc339fa8dddd486f160cf839b0d6"), looks := true }, kinds := [], alts := [], laidByText := true, laidKinds := [.data, .data, .data, .sentinel, .sentinel], laidTests := true, laidLooks := .later }
def ValueKeepsUptoCardSaid : Prop := Claim7.holds Tryz.pinned (.plain (OpenSpec.upto valueKeepsSpec)) valueKeepsUptoCard

/-- THE SECOND FORM's CARD OF 'pavanelaw11.ValueMay'. -/
def valueMayUptoCard : Claim7 := { stood := { row := valueMayUptoRow, standIns := [], harness := (true, "454392e23f468c60332b075130d80b83e821cc339fa8dddd486f160cf839b0d6"), looks := true }, kinds := [], alts := [], laidByText := true, laidKinds := [.data, .data, .data, .sentinel, .sentinel], laidTests := true, laidLooks := .later }
def ValueMayUptoCardSaid : Prop := Claim7.holds Tryz.pinned (.plain (OpenSpec.upto valueMaySpec)) valueMayUptoCard

/-- THE SECOND FORM's CARD OF 'pavanelaw11.ValueVars'. -/
def valueVarsUptoCard : Claim7 := { stood := { row := valueVarsUptoRow, standIns := [], harness := (true, "454392e23f468c60332b075130d80b83e821cc339fa8dddd486f160cf839b0d6"), looks := true }, kinds := [], alts := [], laidByText := true, laidKinds := [.data, .data, .data, .sentinel, .sentinel], laidTests := true, laidLooks := .later }
def ValueVarsUptoCardSaid : Prop := Claim7.holds Tryz.pinned (.plain (OpenSpec.upto valueVarsSpec)) valueVarsUptoCard

/-- THE SECOND FORM's CARD OF 'pavanelaw11.ValueWith'. -/
def valueWithUptoCard : Claim7 := { stood := { row := valueWithUptoRow, standIns := [], harness := (true, "454392e23f468c60332b075130d80b83e821cc339fa8dddd486f160cf839b0d6"), looks := true }, kinds := [], alts := [], laidByText := true, laidKinds := [.data, .data, .data, .sentinel, .sentinel], laidTests := true, laidLooks := .later }
def ValueWithUptoCardSaid : Prop := Claim7.holds Tryz.pinned (.plain (OpenSpec.upto valueWithSpec)) valueWithUptoCard
end Rows
end Go.Proofs.YtlcbhhmnfmeoeaaGreatDoor
