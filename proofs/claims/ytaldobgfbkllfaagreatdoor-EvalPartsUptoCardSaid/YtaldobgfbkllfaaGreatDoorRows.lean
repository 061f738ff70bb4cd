/-
  NARROWER THAN 'FOR EVERY INPUT', by the rows' own cells (each row's printed sentence says how): EvalValues: laid · EvalNumbers: laid · EvalHolds: laid · EvalParts: laid · EvalTexts: laid · FormulaBack: laid · FormulaBrackets: laid · FormulaBinds: laid · FormulaKeeps: laid · EvalDoes: laid · EvalKeeps: laid.
  DERIVED. THE GIVEN ROWS OF THIS SEAT. 11 by the template 'for every input the law returns true; each argument reads behind the call as it read before'; 0 by the template 'total and deterministic' (their statements: YtaldobgfbkllfaaGreatDoorTotals.lean).
  GIVEN WITH THE SEED: the statements are not yours to turn. If you find one false, say at which input.
  Laid BY PROGRAM, IN A SANDBOX (cutbox-rows.mjs): the forced cells as the released guide's own fill.sh prints them over the translation 93330958ebeb309b… (all of the seat's roots in one cut). By AI agents, Wed Nov 11 2026. No macro, syntax, notation, axiom, sorry.
-/
import Derived.Test.YtaldobgfbkllfaaGreatDoorChecked
import GoSem.Claim
import GoSem.ClaimJoined
import GoSem.ClaimMapViews
import Derived.JoinedTies
import Derived.KernelRfl
namespace Go.Proofs.YtaldobgfbkllfaaGreatDoor
/- THE CELL 'sum', in the pinned program and in every row, IS THE sha256 OF THE DUMP (.gsa) THAT YtaldobgfbkllfaaGreatDoorProg.lean LOADS. Nothing in Lean hashes anything: it is a label: what it is worth is what the hold of that sum in a sandbox is worth. -/
noncomputable def Tryz.pinned : Pinned := { name := "ytaldobgfbkllfaagreatdoor", sum := "93330958ebeb309b2d45417edab2bb1936a4d8545c417f119cfdf5f6109447e9", checked := Tryz.checked }
namespace Rows
def none {H : Type} : Left H := { results := [], args := [] }

/- WHAT THE LISTED PACKAGE-LEVEL VARIABLES READ AS WHEN THE CALL BEGINS. Each datum BY PROGRAM (the guide's laid-datum.mjs) off the statement by which the dump's own 'gosem.cut.vars' lays the variable. In a bare row this is a premise. The card (YtaldobgfbkllfaaGreatDoorCards.lean) ties it to the program's text. -/
def laid_math_bits_deBruijn32tab {H : Type} : DataW H := .agg [.lit (.int .u8 0), .lit (.int .u8 1), .lit (.int .u8 28), .lit (.int .u8 2), .lit (.int .u8 29), .lit (.int .u8 14), .lit (.int .u8 24), .lit (.int .u8 3), .lit (.int .u8 30), .lit (.int .u8 22), .lit (.int .u8 20), .lit (.int .u8 15), .lit (.int .u8 25), .lit (.int .u8 17), .lit (.int .u8 4), .lit (.int .u8 8), .lit (.int .u8 31), .lit (.int .u8 27), .lit (.int .u8 13), .lit (.int .u8 23), .lit (.int .u8 21), .lit (.int .u8 19), .lit (.int .u8 16), .lit (.int .u8 7), .lit (.int .u8 26), .lit (.int .u8 12), .lit (.int .u8 18), .lit (.int .u8 6), .lit (.int .u8 11), .lit (.int .u8 5), .lit (.int .u8 10), .lit (.int .u8 9)]
def laid_math_bits_deBruijn64tab {H : Type} : DataW H := .agg [.lit (.int .u8 0), .lit (.int .u8 1), .lit (.int .u8 56), .lit (.int .u8 2), .lit (.int .u8 57), .lit (.int .u8 49), .lit (.int .u8 28), .lit (.int .u8 3), .lit (.int .u8 61), .lit (.int .u8 58), .lit (.int .u8 42), .lit (.int .u8 50), .lit (.int .u8 38), .lit (.int .u8 29), .lit (.int .u8 17), .lit (.int .u8 4), .lit (.int .u8 62), .lit (.int .u8 47), .lit (.int .u8 59), .lit (.int .u8 36), .lit (.int .u8 45), .lit (.int .u8 43), .lit (.int .u8 51), .lit (.int .u8 22), .lit (.int .u8 53), .lit (.int .u8 39), .lit (.int .u8 33), .lit (.int .u8 30), .lit (.int .u8 24), .lit (.int .u8 18), .lit (.int .u8 12), .lit (.int .u8 5), .lit (.int .u8 63), .lit (.int .u8 55), .lit (.int .u8 48), .lit (.int .u8 27), .lit (.int .u8 60), .lit (.int .u8 41), .lit (.int .u8 37), .lit (.int .u8 16), .lit (.int .u8 46), .lit (.int .u8 35), .lit (.int .u8 44), .lit (.int .u8 21), .lit (.int .u8 52), .lit (.int .u8 32), .lit (.int .u8 23), .lit (.int .u8 11), .lit (.int .u8 54), .lit (.int .u8 26), .lit (.int .u8 40), .lit (.int .u8 15), .lit (.int .u8 34), .lit (.int .u8 20), .lit (.int .u8 31), .lit (.int .u8 10), .lit (.int .u8 25), .lit (.int .u8 14), .lit (.int .u8 19), .lit (.int .u8 9), .lit (.int .u8 13), .lit (.int .u8 8), .lit (.int .u8 7), .lit (.int .u8 6)]
def laid_internal_strconv_uint64pow10 {H : Type} : DataW H := .agg [.lit (.int .u64 1), .lit (.int .u64 10), .lit (.int .u64 100), .lit (.int .u64 1000), .lit (.int .u64 10000), .lit (.int .u64 100000), .lit (.int .u64 1000000), .lit (.int .u64 10000000), .lit (.int .u64 100000000), .lit (.int .u64 1000000000), .lit (.int .u64 10000000000), .lit (.int .u64 100000000000), .lit (.int .u64 1000000000000), .lit (.int .u64 10000000000000), .lit (.int .u64 100000000000000), .lit (.int .u64 1000000000000000), .lit (.int .u64 10000000000000000), .lit (.int .u64 100000000000000000), .lit (.int .u64 1000000000000000000), .lit (.int .u64 10000000000000000000)]
def laid_strconv_ErrRange {H : Type} : DataW H := .iface "*errors.errorString" (.ptr (.agg [.lit (.string [118, 97, 108, 117, 101, 32, 111, 117, 116, 32, 111, 102, 32, 114, 97, 110, 103, 101])]))
def laid_strconv_ErrSyntax {H : Type} : DataW H := .iface "*errors.errorString" (.ptr (.agg [.lit (.string [105, 110, 118, 97, 108, 105, 100, 32, 115, 121, 110, 116, 97, 120])]))
def laid_pavane_pavaneref13_Signs {H : Type} : DataW H := .agg [.lit (.string [42]), .lit (.string [47]), .lit (.string [37]), .lit (.string [43]), .lit (.string [45]), .lit (.string [61, 61]), .lit (.string [33, 61]), .lit (.string [60]), .lit (.string [60, 61]), .lit (.string [62]), .lit (.string [62, 61]), .lit (.string [38, 38]), .lit (.string [124, 124])]
def laid_pavane_pavaneref13_level {H : Type} : DataW H := .agg [.lit (.int .i64 1), .lit (.int .i64 1), .lit (.int .i64 1), .lit (.int .i64 2), .lit (.int .i64 2), .lit (.int .i64 3), .lit (.int .i64 3), .lit (.int .i64 3), .lit (.int .i64 3), .lit (.int .i64 3), .lit (.int .i64 3), .lit (.int .i64 4), .lit (.int .i64 5)]

/-- 'pavanelaw14.EvalValues': WHATEVER THE INPUT: true; the input reads as it did. -/
def evalValuesSpec : ChangeSpec := { name := "evalValues", fn := fun _ => fun
  | [d1, d2] => { results := [.lit (.bool true)], args := [d1, d2] }
  | _ => none }
def evalValuesRow : OpenClaim := { program := "ytaldobgfbkllfaagreatdoor", sum := "93330958ebeb309b2d45417edab2bb1936a4d8545c417f119cfdf5f6109447e9", func := "pavane/pavanelaw14.EvalValues", spec := "evalValues", unfollowed := true, recurses := true, named := ["strconv.ErrSyntax", "strconv.ErrRange", "internal/strconv.uint64pow10", "math/bits.deBruijn32tab", "math/bits.deBruijn64tab"], apart := false, laid := [("math/bits.deBruijn32tab", laid_math_bits_deBruijn32tab), ("math/bits.deBruijn64tab", laid_math_bits_deBruijn64tab), ("internal/strconv.uint64pow10", laid_internal_strconv_uint64pow10), ("strconv.ErrRange", laid_strconv_ErrRange), ("strconv.ErrSyntax", laid_strconv_ErrSyntax)] }
def EvalValuesSaid : Prop := evalValuesRow.holds Tryz.pinned (OpenSpec.ofChange evalValuesSpec)

/-- ITS FALSE NEIGHBOUR: 'it returns false'. Refute it at one input. -/
def evalValuesWrong : ChangeSpec := { name := "evalValues", fn := fun _ => fun
  | [d1, d2] => { results := [.lit (.bool false)], args := [d1, d2] }
  | _ => none }
def EvalValuesWrongFalsely : Prop := evalValuesRow.holds Tryz.pinned (OpenSpec.ofChange evalValuesWrong)

/-- 'pavanelaw14.EvalNumbers': WHATEVER THE INPUT: true; the input reads as it did. -/
def evalNumbersSpec : ChangeSpec := { name := "evalNumbers", fn := fun _ => fun
  | [d1, d2] => { results := [.lit (.bool true)], args := [d1, d2] }
  | _ => none }
def evalNumbersRow : OpenClaim := { program := "ytaldobgfbkllfaagreatdoor", sum := "93330958ebeb309b2d45417edab2bb1936a4d8545c417f119cfdf5f6109447e9", func := "pavane/pavanelaw14.EvalNumbers", spec := "evalNumbers", unfollowed := true, recurses := true, named := ["strconv.ErrSyntax", "strconv.ErrRange", "internal/strconv.uint64pow10", "math/bits.deBruijn32tab", "math/bits.deBruijn64tab"], apart := false, laid := [("math/bits.deBruijn32tab", laid_math_bits_deBruijn32tab), ("math/bits.deBruijn64tab", laid_math_bits_deBruijn64tab), ("internal/strconv.uint64pow10", laid_internal_strconv_uint64pow10), ("strconv.ErrRange", laid_strconv_ErrRange), ("strconv.ErrSyntax", laid_strconv_ErrSyntax)] }
def EvalNumbersSaid : Prop := evalNumbersRow.holds Tryz.pinned (OpenSpec.ofChange evalNumbersSpec)

/-- ITS FALSE NEIGHBOUR: 'it returns false'. Refute it at one input. -/
def evalNumbersWrong : ChangeSpec := { name := "evalNumbers", fn := fun _ => fun
  | [d1, d2] => { results := [.lit (.bool false)], args := [d1, d2] }
  | _ => none }
def EvalNumbersWrongFalsely : Prop := evalNumbersRow.holds Tryz.pinned (OpenSpec.ofChange evalNumbersWrong)

/-- 'pavanelaw14.EvalHolds': WHATEVER THE INPUT: true; the input reads as it did. -/
def evalHoldsSpec : ChangeSpec := { name := "evalHolds", fn := fun _ => fun
  | [d1, d2] => { results := [.lit (.bool true)], args := [d1, d2] }
  | _ => none }
def evalHoldsRow : OpenClaim := { program := "ytaldobgfbkllfaagreatdoor", sum := "93330958ebeb309b2d45417edab2bb1936a4d8545c417f119cfdf5f6109447e9", func := "pavane/pavanelaw14.EvalHolds", spec := "evalHolds", unfollowed := true, recurses := true, named := ["strconv.ErrSyntax", "strconv.ErrRange", "internal/strconv.uint64pow10", "math/bits.deBruijn32tab", "math/bits.deBruijn64tab", "pavane/pavaneref13.level", "pavane/pavaneref13.Signs"], apart := false, laid := [("math/bits.deBruijn32tab", laid_math_bits_deBruijn32tab), ("math/bits.deBruijn64tab", laid_math_bits_deBruijn64tab), ("internal/strconv.uint64pow10", laid_internal_strconv_uint64pow10), ("pavane/pavaneref13.Signs", laid_pavane_pavaneref13_Signs), ("pavane/pavaneref13.level", laid_pavane_pavaneref13_level), ("strconv.ErrRange", laid_strconv_ErrRange), ("strconv.ErrSyntax", laid_strconv_ErrSyntax)] }
def EvalHoldsSaid : Prop := evalHoldsRow.holds Tryz.pinned (OpenSpec.ofChange evalHoldsSpec)

/-- ITS FALSE NEIGHBOUR: 'it returns false'. Refute it at one input. -/
def evalHoldsWrong : ChangeSpec := { name := "evalHolds", fn := fun _ => fun
  | [d1, d2] => { results := [.lit (.bool false)], args := [d1, d2] }
  | _ => none }
def EvalHoldsWrongFalsely : Prop := evalHoldsRow.holds Tryz.pinned (OpenSpec.ofChange evalHoldsWrong)

/-- 'pavanelaw14.EvalParts': WHATEVER THE INPUT: true; the input reads as it did. -/
def evalPartsSpec : ChangeSpec := { name := "evalParts", fn := fun _ => fun
  | [d1, d2, d3] => { results := [.lit (.bool true)], args := [d1, d2, d3] }
  | _ => none }
def evalPartsRow : OpenClaim := { program := "ytaldobgfbkllfaagreatdoor", sum := "93330958ebeb309b2d45417edab2bb1936a4d8545c417f119cfdf5f6109447e9", func := "pavane/pavanelaw14.EvalParts", spec := "evalParts", unfollowed := true, recurses := true, named := ["strconv.ErrSyntax", "strconv.ErrRange", "internal/strconv.uint64pow10", "math/bits.deBruijn32tab", "math/bits.deBruijn64tab"], apart := false, laid := [("math/bits.deBruijn32tab", laid_math_bits_deBruijn32tab), ("math/bits.deBruijn64tab", laid_math_bits_deBruijn64tab), ("internal/strconv.uint64pow10", laid_internal_strconv_uint64pow10), ("strconv.ErrRange", laid_strconv_ErrRange), ("strconv.ErrSyntax", laid_strconv_ErrSyntax)] }
def EvalPartsSaid : Prop := evalPartsRow.holds Tryz.pinned (OpenSpec.ofChange evalPartsSpec)

/-- ITS FALSE NEIGHBOUR: 'it returns false'. Refute it at one input. -/
def evalPartsWrong : ChangeSpec := { name := "evalParts", fn := fun _ => fun
  | [d1, d2, d3] => { results := [.lit (.bool false)], args := [d1, d2, d3] }
  | _ => none }
def EvalPartsWrongFalsely : Prop := evalPartsRow.holds Tryz.pinned (OpenSpec.ofChange evalPartsWrong)

/-- 'pavanelaw14.EvalTexts': WHATEVER THE INPUT: true; the input reads as it did. -/
def evalTextsSpec : ChangeSpec := { name := "evalTexts", fn := fun _ => fun
  | [d1, d2] => { results := [.lit (.bool true)], args := [d1, d2] }
  | _ => none }
def evalTextsRow : OpenClaim := { program := "ytaldobgfbkllfaagreatdoor", sum := "93330958ebeb309b2d45417edab2bb1936a4d8545c417f119cfdf5f6109447e9", func := "pavane/pavanelaw14.EvalTexts", spec := "evalTexts", unfollowed := true, recurses := true, named := ["strconv.ErrSyntax", "strconv.ErrRange", "internal/strconv.uint64pow10", "math/bits.deBruijn32tab", "math/bits.deBruijn64tab"], apart := false, laid := [("math/bits.deBruijn32tab", laid_math_bits_deBruijn32tab), ("math/bits.deBruijn64tab", laid_math_bits_deBruijn64tab), ("internal/strconv.uint64pow10", laid_internal_strconv_uint64pow10), ("strconv.ErrRange", laid_strconv_ErrRange), ("strconv.ErrSyntax", laid_strconv_ErrSyntax)] }
def EvalTextsSaid : Prop := evalTextsRow.holds Tryz.pinned (OpenSpec.ofChange evalTextsSpec)

/-- ITS FALSE NEIGHBOUR: 'it returns false'. Refute it at one input. -/
def evalTextsWrong : ChangeSpec := { name := "evalTexts", fn := fun _ => fun
  | [d1, d2] => { results := [.lit (.bool false)], args := [d1, d2] }
  | _ => none }
def EvalTextsWrongFalsely : Prop := evalTextsRow.holds Tryz.pinned (OpenSpec.ofChange evalTextsWrong)

/-- 'pavanelaw13.FormulaBack': WHATEVER THE INPUT: true; the input reads as it did. -/
def formulaBackSpec : ChangeSpec := { name := "formulaBack", fn := fun _ => fun
  | [d1, d2] => { results := [.lit (.bool true)], args := [d1, d2] }
  | _ => none }
def formulaBackRow : OpenClaim := { program := "ytaldobgfbkllfaagreatdoor", sum := "93330958ebeb309b2d45417edab2bb1936a4d8545c417f119cfdf5f6109447e9", func := "pavane/pavanelaw13.FormulaBack", spec := "formulaBack", inPlace := ["sync/atomic.LoadUint32", "(*internal/sync.Mutex).Lock", "internal/race.Disable", "sync/atomic.CompareAndSwapInt32", "internal/race.Enable", "internal/race.Acquire", "(*internal/sync.Mutex).lockSlow", "internal/sync.runtime_canSpin", "internal/sync.runtime_doSpin", "internal/sync.throw", "internal/sync.runtime_nanotime", "internal/sync.runtime_SemacquireMutex", "sync/atomic.AddInt32", "(*internal/sync.Mutex).Unlock", "internal/race.ReleaseMerge", "(*internal/sync.Mutex).unlockSlow", "internal/sync.fatal", "internal/sync.runtime_Semrelease", "sync/atomic.StoreUint32"], unfollowed := true, recurses := true, named := ["strconv.ErrSyntax", "strconv.ErrRange", "internal/strconv.uint64pow10", "math/bits.deBruijn32tab", "math/bits.deBruijn64tab"], apart := false, laid := [("math/bits.deBruijn32tab", laid_math_bits_deBruijn32tab), ("math/bits.deBruijn64tab", laid_math_bits_deBruijn64tab), ("internal/strconv.uint64pow10", laid_internal_strconv_uint64pow10), ("strconv.ErrRange", laid_strconv_ErrRange), ("strconv.ErrSyntax", laid_strconv_ErrSyntax)] }
def FormulaBackSaid : Prop := formulaBackRow.holds Tryz.pinned (OpenSpec.ofChange formulaBackSpec)

/-- ITS FALSE NEIGHBOUR: 'it returns false'. Refute it at one input. -/
def formulaBackWrong : ChangeSpec := { name := "formulaBack", fn := fun _ => fun
  | [d1, d2] => { results := [.lit (.bool false)], args := [d1, d2] }
  | _ => none }
def FormulaBackWrongFalsely : Prop := formulaBackRow.holds Tryz.pinned (OpenSpec.ofChange formulaBackWrong)

/-- 'pavanelaw13.FormulaBrackets': WHATEVER THE INPUT: true; the input reads as it did. -/
def formulaBracketsSpec : ChangeSpec := { name := "formulaBrackets", fn := fun _ => fun
  | [d1, d2, d3] => { results := [.lit (.bool true)], args := [d1, d2, d3] }
  | _ => none }
def formulaBracketsRow : OpenClaim := { program := "ytaldobgfbkllfaagreatdoor", sum := "93330958ebeb309b2d45417edab2bb1936a4d8545c417f119cfdf5f6109447e9", func := "pavane/pavanelaw13.FormulaBrackets", spec := "formulaBrackets", inPlace := ["sync/atomic.LoadUint32", "(*internal/sync.Mutex).Lock", "internal/race.Disable", "sync/atomic.CompareAndSwapInt32", "internal/race.Enable", "internal/race.Acquire", "(*internal/sync.Mutex).lockSlow", "internal/sync.runtime_canSpin", "internal/sync.runtime_doSpin", "internal/sync.throw", "internal/sync.runtime_nanotime", "internal/sync.runtime_SemacquireMutex", "sync/atomic.AddInt32", "(*internal/sync.Mutex).Unlock", "internal/race.ReleaseMerge", "(*internal/sync.Mutex).unlockSlow", "internal/sync.fatal", "internal/sync.runtime_Semrelease", "sync/atomic.StoreUint32"], unfollowed := true, recurses := true, named := ["strconv.ErrSyntax", "strconv.ErrRange", "internal/strconv.uint64pow10", "math/bits.deBruijn32tab", "math/bits.deBruijn64tab"], apart := false, laid := [("math/bits.deBruijn32tab", laid_math_bits_deBruijn32tab), ("math/bits.deBruijn64tab", laid_math_bits_deBruijn64tab), ("internal/strconv.uint64pow10", laid_internal_strconv_uint64pow10), ("strconv.ErrRange", laid_strconv_ErrRange), ("strconv.ErrSyntax", laid_strconv_ErrSyntax)] }
def FormulaBracketsSaid : Prop := formulaBracketsRow.holds Tryz.pinned (OpenSpec.ofChange formulaBracketsSpec)

/-- ITS FALSE NEIGHBOUR: 'it returns false'. Refute it at one input. -/
def formulaBracketsWrong : ChangeSpec := { name := "formulaBrackets", fn := fun _ => fun
  | [d1, d2, d3] => { results := [.lit (.bool false)], args := [d1, d2, d3] }
  | _ => none }
def FormulaBracketsWrongFalsely : Prop := formulaBracketsRow.holds Tryz.pinned (OpenSpec.ofChange formulaBracketsWrong)

/-- 'pavanelaw13.FormulaBinds': WHATEVER THE INPUT: true; the input reads as it did. -/
def formulaBindsSpec : ChangeSpec := { name := "formulaBinds", fn := fun _ => fun
  | [d1, d2] => { results := [.lit (.bool true)], args := [d1, d2] }
  | _ => none }
def formulaBindsRow : OpenClaim := { program := "ytaldobgfbkllfaagreatdoor", sum := "93330958ebeb309b2d45417edab2bb1936a4d8545c417f119cfdf5f6109447e9", func := "pavane/pavanelaw13.FormulaBinds", spec := "formulaBinds", inPlace := ["sync/atomic.LoadUint32", "(*internal/sync.Mutex).Lock", "internal/race.Disable", "sync/atomic.CompareAndSwapInt32", "internal/race.Enable", "internal/race.Acquire", "(*internal/sync.Mutex).lockSlow", "internal/sync.runtime_canSpin", "internal/sync.runtime_doSpin", "internal/sync.throw", "internal/sync.runtime_nanotime", "internal/sync.runtime_SemacquireMutex", "sync/atomic.AddInt32", "(*internal/sync.Mutex).Unlock", "internal/race.ReleaseMerge", "(*internal/sync.Mutex).unlockSlow", "internal/sync.fatal", "internal/sync.runtime_Semrelease", "sync/atomic.StoreUint32"], unfollowed := true, recurses := true, named := ["pavane/pavaneref13.Signs", "strconv.ErrSyntax", "strconv.ErrRange", "internal/strconv.uint64pow10", "math/bits.deBruijn32tab", "math/bits.deBruijn64tab"], apart := false, laid := [("math/bits.deBruijn32tab", laid_math_bits_deBruijn32tab), ("math/bits.deBruijn64tab", laid_math_bits_deBruijn64tab), ("internal/strconv.uint64pow10", laid_internal_strconv_uint64pow10), ("pavane/pavaneref13.Signs", laid_pavane_pavaneref13_Signs), ("strconv.ErrRange", laid_strconv_ErrRange), ("strconv.ErrSyntax", laid_strconv_ErrSyntax)] }
def FormulaBindsSaid : Prop := formulaBindsRow.holds Tryz.pinned (OpenSpec.ofChange formulaBindsSpec)

/-- ITS FALSE NEIGHBOUR: 'it returns false'. Refute it at one input. -/
def formulaBindsWrong : ChangeSpec := { name := "formulaBinds", fn := fun _ => fun
  | [d1, d2] => { results := [.lit (.bool false)], args := [d1, d2] }
  | _ => none }
def FormulaBindsWrongFalsely : Prop := formulaBindsRow.holds Tryz.pinned (OpenSpec.ofChange formulaBindsWrong)

/-- 'pavanelaw13.FormulaKeeps': WHATEVER THE INPUT: true; the input reads as it did. -/
def formulaKeepsSpec : ChangeSpec := { name := "formulaKeeps", fn := fun _ => fun
  | [d1, d2] => { results := [.lit (.bool true)], args := [d1, d2] }
  | _ => none }
def formulaKeepsRow : OpenClaim := { program := "ytaldobgfbkllfaagreatdoor", sum := "93330958ebeb309b2d45417edab2bb1936a4d8545c417f119cfdf5f6109447e9", func := "pavane/pavanelaw13.FormulaKeeps", spec := "formulaKeeps", inPlace := ["sync/atomic.LoadUint32", "(*internal/sync.Mutex).Lock", "internal/race.Disable", "sync/atomic.CompareAndSwapInt32", "internal/race.Enable", "internal/race.Acquire", "(*internal/sync.Mutex).lockSlow", "internal/sync.runtime_canSpin", "internal/sync.runtime_doSpin", "internal/sync.throw", "internal/sync.runtime_nanotime", "internal/sync.runtime_SemacquireMutex", "sync/atomic.AddInt32", "(*internal/sync.Mutex).Unlock", "internal/race.ReleaseMerge", "(*internal/sync.Mutex).unlockSlow", "internal/sync.fatal", "internal/sync.runtime_Semrelease", "sync/atomic.StoreUint32"], unfollowed := true, recurses := true, named := ["strconv.ErrSyntax", "strconv.ErrRange", "internal/strconv.uint64pow10", "math/bits.deBruijn32tab", "math/bits.deBruijn64tab", "pavane/pavaneref13.level", "pavane/pavaneref13.Signs"], apart := false, laid := [("math/bits.deBruijn32tab", laid_math_bits_deBruijn32tab), ("math/bits.deBruijn64tab", laid_math_bits_deBruijn64tab), ("internal/strconv.uint64pow10", laid_internal_strconv_uint64pow10), ("pavane/pavaneref13.Signs", laid_pavane_pavaneref13_Signs), ("pavane/pavaneref13.level", laid_pavane_pavaneref13_level), ("strconv.ErrRange", laid_strconv_ErrRange), ("strconv.ErrSyntax", laid_strconv_ErrSyntax)] }
def FormulaKeepsSaid : Prop := formulaKeepsRow.holds Tryz.pinned (OpenSpec.ofChange formulaKeepsSpec)

/-- ITS FALSE NEIGHBOUR: 'it returns false'. Refute it at one input. -/
def formulaKeepsWrong : ChangeSpec := { name := "formulaKeeps", fn := fun _ => fun
  | [d1, d2] => { results := [.lit (.bool false)], args := [d1, d2] }
  | _ => none }
def FormulaKeepsWrongFalsely : Prop := formulaKeepsRow.holds Tryz.pinned (OpenSpec.ofChange formulaKeepsWrong)

/-- 'pavanelaw14.EvalDoes': WHATEVER THE INPUT: true; the input reads as it did. -/
def evalDoesSpec : ChangeSpec := { name := "evalDoes", fn := fun _ => fun
  | [d1, d2] => { results := [.lit (.bool true)], args := [d1, d2] }
  | _ => none }
def evalDoesRow : OpenClaim := { program := "ytaldobgfbkllfaagreatdoor", sum := "93330958ebeb309b2d45417edab2bb1936a4d8545c417f119cfdf5f6109447e9", func := "pavane/pavanelaw14.EvalDoes", spec := "evalDoes", inPlace := ["internal/bytealg.abigen_runtime_cmpstring", "slices.overlaps[pavane/api.Var]"], unfollowed := true, recurses := true, named := ["strconv.ErrSyntax", "strconv.ErrRange", "internal/strconv.uint64pow10", "math/bits.deBruijn32tab", "math/bits.deBruijn64tab", "pavane/pavaneref13.level", "pavane/pavaneref13.Signs"], apart := false, laid := [("math/bits.deBruijn32tab", laid_math_bits_deBruijn32tab), ("math/bits.deBruijn64tab", laid_math_bits_deBruijn64tab), ("internal/strconv.uint64pow10", laid_internal_strconv_uint64pow10), ("pavane/pavaneref13.Signs", laid_pavane_pavaneref13_Signs), ("pavane/pavaneref13.level", laid_pavane_pavaneref13_level), ("strconv.ErrRange", laid_strconv_ErrRange), ("strconv.ErrSyntax", laid_strconv_ErrSyntax)] }
def EvalDoesSaid : Prop := evalDoesRow.holds Tryz.pinned (OpenSpec.ofChange evalDoesSpec)

/-- ITS FALSE NEIGHBOUR: 'it returns false'. Refute it at one input. -/
def evalDoesWrong : ChangeSpec := { name := "evalDoes", fn := fun _ => fun
  | [d1, d2] => { results := [.lit (.bool false)], args := [d1, d2] }
  | _ => none }
def EvalDoesWrongFalsely : Prop := evalDoesRow.holds Tryz.pinned (OpenSpec.ofChange evalDoesWrong)

/-- 'pavanelaw14.EvalKeeps': WHATEVER THE INPUT: true; the input reads as it did. -/
def evalKeepsSpec : ChangeSpec := { name := "evalKeeps", fn := fun _ => fun
  | [d1, d2] => { results := [.lit (.bool true)], args := [d1, d2] }
  | _ => none }
def evalKeepsRow : OpenClaim := { program := "ytaldobgfbkllfaagreatdoor", sum := "93330958ebeb309b2d45417edab2bb1936a4d8545c417f119cfdf5f6109447e9", func := "pavane/pavanelaw14.EvalKeeps", spec := "evalKeeps", inPlace := ["internal/bytealg.abigen_runtime_cmpstring", "slices.overlaps[pavane/api.Var]"], unfollowed := true, recurses := true, named := ["strconv.ErrSyntax", "strconv.ErrRange", "internal/strconv.uint64pow10", "math/bits.deBruijn32tab", "math/bits.deBruijn64tab"], apart := false, laid := [("math/bits.deBruijn32tab", laid_math_bits_deBruijn32tab), ("math/bits.deBruijn64tab", laid_math_bits_deBruijn64tab), ("internal/strconv.uint64pow10", laid_internal_strconv_uint64pow10), ("strconv.ErrRange", laid_strconv_ErrRange), ("strconv.ErrSyntax", laid_strconv_ErrSyntax)] }
def EvalKeepsSaid : Prop := evalKeepsRow.holds Tryz.pinned (OpenSpec.ofChange evalKeepsSpec)

/-- ITS FALSE NEIGHBOUR: 'it returns false'. Refute it at one input. -/
def evalKeepsWrong : ChangeSpec := { name := "evalKeeps", fn := fun _ => fun
  | [d1, d2] => { results := [.lit (.bool false)], args := [d1, d2] }
  | _ => none }
def EvalKeepsWrongFalsely : Prop := evalKeepsRow.holds Tryz.pinned (OpenSpec.ofChange evalKeepsWrong)

/- THE SECOND FORM. 'bulk': how many values and letters a reading holds, each counted each time it is reached (what is shared counts as often as it is met; a slice's spare places count too). A statement '..UptoSaid' is the law's where the arguments, and the package variables that the reading takes, are together of bulk at most 1048576: NARROWER than '..Said'. Prove '..Said' where nothing that the law and all that it calls make is longer than what came in: it says more and counts as full. Else prove '..UptoSaid'. A law counts once. -/
mutual
def uptoBulk {H : Type} : DataW H → Nat
  | .lit (.string bytes) => bytes.length + 1
  | .lit _ => 1
  | .nil => 1
  | .ptr d => uptoBulk d + 1
  | .slice elems spare => uptoBulkAll elems + uptoBulkAll spare + 1
  | .agg parts => uptoBulkAll parts + 1
  | .iface _ d => uptoBulk d + 1
  | .map entries => uptoBulkEntries entries + 1
  | .held _ => 1
def uptoBulkAll {H : Type} : List (DataW H) → Nat
  | [] => 0
  | d :: r => uptoBulk d + uptoBulkAll r
def uptoBulkEntries {H : Type} : List (Lit × DataW H) → Nat
  | [] => 0
  | x :: r => uptoBulkEntry x + uptoBulkEntries r
def uptoBulkEntry {H : Type} : Lit × DataW H → Nat
  | (.string bytes, d) => bytes.length + uptoBulk d + 1
  | (_, d) => uptoBulk d + 1
 end
def uptoSmall : (H : Type) → List (DataW H) → Bool := fun _ ds => decide (uptoBulkAll ds ≤ 1048576)
def OpenSpec.upto (s : _root_.Go.ChangeSpec) : _root_.Go.OpenSpec := { _root_.Go.OpenSpec.ofChange s with cond := some uptoSmall }

/-- 'pavanelaw14.EvalValues', WHERE WHAT IT READS IS OF BULK AT MOST 1048576: true; the input reads as it did. -/
def evalValuesUptoRow : OpenClaim := { program := "ytaldobgfbkllfaagreatdoor", sum := "93330958ebeb309b2d45417edab2bb1936a4d8545c417f119cfdf5f6109447e9", func := "pavane/pavanelaw14.EvalValues", spec := "evalValues", unfollowed := true, recurses := true, named := ["strconv.ErrSyntax", "strconv.ErrRange", "internal/strconv.uint64pow10", "math/bits.deBruijn32tab", "math/bits.deBruijn64tab"], apart := false, laid := [("math/bits.deBruijn32tab", laid_math_bits_deBruijn32tab), ("math/bits.deBruijn64tab", laid_math_bits_deBruijn64tab), ("internal/strconv.uint64pow10", laid_internal_strconv_uint64pow10), ("strconv.ErrRange", laid_strconv_ErrRange), ("strconv.ErrSyntax", laid_strconv_ErrSyntax)], narrowed := true }
def EvalValuesUptoSaid : Prop := evalValuesUptoRow.holds Tryz.pinned (OpenSpec.upto evalValuesSpec)

/-- 'pavanelaw14.EvalNumbers', WHERE WHAT IT READS IS OF BULK AT MOST 1048576: true; the input reads as it did. -/
def evalNumbersUptoRow : OpenClaim := { program := "ytaldobgfbkllfaagreatdoor", sum := "93330958ebeb309b2d45417edab2bb1936a4d8545c417f119cfdf5f6109447e9", func := "pavane/pavanelaw14.EvalNumbers", spec := "evalNumbers", unfollowed := true, recurses := true, named := ["strconv.ErrSyntax", "strconv.ErrRange", "internal/strconv.uint64pow10", "math/bits.deBruijn32tab", "math/bits.deBruijn64tab"], apart := false, laid := [("math/bits.deBruijn32tab", laid_math_bits_deBruijn32tab), ("math/bits.deBruijn64tab", laid_math_bits_deBruijn64tab), ("internal/strconv.uint64pow10", laid_internal_strconv_uint64pow10), ("strconv.ErrRange", laid_strconv_ErrRange), ("strconv.ErrSyntax", laid_strconv_ErrSyntax)], narrowed := true }
def EvalNumbersUptoSaid : Prop := evalNumbersUptoRow.holds Tryz.pinned (OpenSpec.upto evalNumbersSpec)

/-- 'pavanelaw14.EvalHolds', WHERE WHAT IT READS IS OF BULK AT MOST 1048576: true; the input reads as it did. -/
def evalHoldsUptoRow : OpenClaim := { program := "ytaldobgfbkllfaagreatdoor", sum := "93330958ebeb309b2d45417edab2bb1936a4d8545c417f119cfdf5f6109447e9", func := "pavane/pavanelaw14.EvalHolds", spec := "evalHolds", unfollowed := true, recurses := true, named := ["strconv.ErrSyntax", "strconv.ErrRange", "internal/strconv.uint64pow10", "math/bits.deBruijn32tab", "math/bits.deBruijn64tab", "pavane/pavaneref13.level", "pavane/pavaneref13.Signs"], apart := false, laid := [("math/bits.deBruijn32tab", laid_math_bits_deBruijn32tab), ("math/bits.deBruijn64tab", laid_math_bits_deBruijn64tab), ("internal/strconv.uint64pow10", laid_internal_strconv_uint64pow10), ("pavane/pavaneref13.Signs", laid_pavane_pavaneref13_Signs), ("pavane/pavaneref13.level", laid_pavane_pavaneref13_level), ("strconv.ErrRange", laid_strconv_ErrRange), ("strconv.ErrSyntax", laid_strconv_ErrSyntax)], narrowed := true }
def EvalHoldsUptoSaid : Prop := evalHoldsUptoRow.holds Tryz.pinned (OpenSpec.upto evalHoldsSpec)

/-- 'pavanelaw14.EvalParts', WHERE WHAT IT READS IS OF BULK AT MOST 1048576: true; the input reads as it did. -/
def evalPartsUptoRow : OpenClaim := { program := "ytaldobgfbkllfaagreatdoor", sum := "93330958ebeb309b2d45417edab2bb1936a4d8545c417f119cfdf5f6109447e9", func := "pavane/pavanelaw14.EvalParts", spec := "evalParts", unfollowed := true, recurses := true, named := ["strconv.ErrSyntax", "strconv.ErrRange", "internal/strconv.uint64pow10", "math/bits.deBruijn32tab", "math/bits.deBruijn64tab"], apart := false, laid := [("math/bits.deBruijn32tab", laid_math_bits_deBruijn32tab), ("math/bits.deBruijn64tab", laid_math_bits_deBruijn64tab), ("internal/strconv.uint64pow10", laid_internal_strconv_uint64pow10), ("strconv.ErrRange", laid_strconv_ErrRange), ("strconv.ErrSyntax", laid_strconv_ErrSyntax)], narrowed := true }
def EvalPartsUptoSaid : Prop := evalPartsUptoRow.holds Tryz.pinned (OpenSpec.upto evalPartsSpec)

/-- 'pavanelaw14.EvalTexts', WHERE WHAT IT READS IS OF BULK AT MOST 1048576: true; the input reads as it did. -/
def evalTextsUptoRow : OpenClaim := { program := "ytaldobgfbkllfaagreatdoor", sum := "93330958ebeb309b2d45417edab2bb1936a4d8545c417f119cfdf5f6109447e9", func := "pavane/pavanelaw14.EvalTexts", spec := "evalTexts", unfollowed := true, recurses := true, named := ["strconv.ErrSyntax", "strconv.ErrRange", "internal/strconv.uint64pow10", "math/bits.deBruijn32tab", "math/bits.deBruijn64tab"], apart := false, laid := [("math/bits.deBruijn32tab", laid_math_bits_deBruijn32tab), ("math/bits.deBruijn64tab", laid_math_bits_deBruijn64tab), ("internal/strconv.uint64pow10", laid_internal_strconv_uint64pow10), ("strconv.ErrRange", laid_strconv_ErrRange), ("strconv.ErrSyntax", laid_strconv_ErrSyntax)], narrowed := true }
def EvalTextsUptoSaid : Prop := evalTextsUptoRow.holds Tryz.pinned (OpenSpec.upto evalTextsSpec)

/-- 'pavanelaw13.FormulaBack', WHERE WHAT IT READS IS OF BULK AT MOST 1048576: true; the input reads as it did. -/
def formulaBackUptoRow : OpenClaim := { program := "ytaldobgfbkllfaagreatdoor", sum := "93330958ebeb309b2d45417edab2bb1936a4d8545c417f119cfdf5f6109447e9", func := "pavane/pavanelaw13.FormulaBack", spec := "formulaBack", inPlace := ["sync/atomic.LoadUint32", "(*internal/sync.Mutex).Lock", "internal/race.Disable", "sync/atomic.CompareAndSwapInt32", "internal/race.Enable", "internal/race.Acquire", "(*internal/sync.Mutex).lockSlow", "internal/sync.runtime_canSpin", "internal/sync.runtime_doSpin", "internal/sync.throw", "internal/sync.runtime_nanotime", "internal/sync.runtime_SemacquireMutex", "sync/atomic.AddInt32", "(*internal/sync.Mutex).Unlock", "internal/race.ReleaseMerge", "(*internal/sync.Mutex).unlockSlow", "internal/sync.fatal", "internal/sync.runtime_Semrelease", "sync/atomic.StoreUint32"], unfollowed := true, recurses := true, named := ["strconv.ErrSyntax", "strconv.ErrRange", "internal/strconv.uint64pow10", "math/bits.deBruijn32tab", "math/bits.deBruijn64tab"], apart := false, laid := [("math/bits.deBruijn32tab", laid_math_bits_deBruijn32tab), ("math/bits.deBruijn64tab", laid_math_bits_deBruijn64tab), ("internal/strconv.uint64pow10", laid_internal_strconv_uint64pow10), ("strconv.ErrRange", laid_strconv_ErrRange), ("strconv.ErrSyntax", laid_strconv_ErrSyntax)], narrowed := true }
def FormulaBackUptoSaid : Prop := formulaBackUptoRow.holds Tryz.pinned (OpenSpec.upto formulaBackSpec)

/-- 'pavanelaw13.FormulaBrackets', WHERE WHAT IT READS IS OF BULK AT MOST 1048576: true; the input reads as it did. -/
def formulaBracketsUptoRow : OpenClaim := { program := "ytaldobgfbkllfaagreatdoor", sum := "93330958ebeb309b2d45417edab2bb1936a4d8545c417f119cfdf5f6109447e9", func := "pavane/pavanelaw13.FormulaBrackets", spec := "formulaBrackets", inPlace := ["sync/atomic.LoadUint32", "(*internal/sync.Mutex).Lock", "internal/race.Disable", "sync/atomic.CompareAndSwapInt32", "internal/race.Enable", "internal/race.Acquire", "(*internal/sync.Mutex).lockSlow", "internal/sync.runtime_canSpin", "internal/sync.runtime_doSpin", "internal/sync.throw", "internal/sync.runtime_nanotime", "internal/sync.runtime_SemacquireMutex", "sync/atomic.AddInt32", "(*internal/sync.Mutex).Unlock", "internal/race.ReleaseMerge", "(*internal/sync.Mutex).unlockSlow", "internal/sync.fatal", "internal/sync.runtime_Semrelease", "sync/atomic.StoreUint32"], unfollowed := true, recurses := true, named := ["strconv.ErrSyntax", "strconv.ErrRange", "internal/strconv.uint64pow10", "math/bits.deBruijn32tab", "math/bits.deBruijn64tab"], apart := false, laid := [("math/bits.deBruijn32tab", laid_math_bits_deBruijn32tab), ("math/bits.deBruijn64tab", laid_math_bits_deBruijn64tab), ("internal/strconv.uint64pow10", laid_internal_strconv_uint64pow10), ("strconv.ErrRange", laid_strconv_ErrRange), ("strconv.ErrSyntax", laid_strconv_ErrSyntax)], narrowed := true }
def FormulaBracketsUptoSaid : Prop := formulaBracketsUptoRow.holds Tryz.pinned (OpenSpec.upto formulaBracketsSpec)

/-- 'pavanelaw13.FormulaBinds', WHERE WHAT IT READS IS OF BULK AT MOST 1048576: true; the input reads as it did. -/
def formulaBindsUptoRow : OpenClaim := { program := "ytaldobgfbkllfaagreatdoor", sum := "93330958ebeb309b2d45417edab2bb1936a4d8545c417f119cfdf5f6109447e9", func := "pavane/pavanelaw13.FormulaBinds", spec := "formulaBinds", inPlace := ["sync/atomic.LoadUint32", "(*internal/sync.Mutex).Lock", "internal/race.Disable", "sync/atomic.CompareAndSwapInt32", "internal/race.Enable", "internal/race.Acquire", "(*internal/sync.Mutex).lockSlow", "internal/sync.runtime_canSpin", "internal/sync.runtime_doSpin", "internal/sync.throw", "internal/sync.runtime_nanotime", "internal/sync.runtime_SemacquireMutex", "sync/atomic.AddInt32", "(*internal/sync.Mutex).Unlock", "internal/race.ReleaseMerge", "(*internal/sync.Mutex).unlockSlow", "internal/sync.fatal", "internal/sync.runtime_Semrelease", "sync/atomic.StoreUint32"], unfollowed := true, recurses := true, named := ["pavane/pavaneref13.Signs", "strconv.ErrSyntax", "strconv.ErrRange", "internal/strconv.uint64pow10", "math/bits.deBruijn32tab", "math/bits.deBruijn64tab"], apart := false, laid := [("math/bits.deBruijn32tab", laid_math_bits_deBruijn32tab), ("math/bits.deBruijn64tab", laid_math_bits_deBruijn64tab), ("internal/strconv.uint64pow10", laid_internal_strconv_uint64pow10), ("pavane/pavaneref13.Signs", laid_pavane_pavaneref13_Signs), ("strconv.ErrRange", laid_strconv_ErrRange), ("strconv.ErrSyntax", laid_strconv_ErrSyntax)], narrowed := true }
def FormulaBindsUptoSaid : Prop := formulaBindsUptoRow.holds Tryz.pinned (OpenSpec.upto formulaBindsSpec)

/-- 'pavanelaw13.FormulaKeeps', WHERE WHAT IT READS IS OF BULK AT MOST 1048576: true; the input reads as it did. -/
def formulaKeepsUptoRow : OpenClaim := { program := "ytaldobgfbkllfaagreatdoor", sum := "93330958ebeb309b2d45417edab2bb1936a4d8545c417f119cfdf5f6109447e9", func := "pavane/pavanelaw13.FormulaKeeps", spec := "formulaKeeps", inPlace := ["sync/atomic.LoadUint32", "(*internal/sync.Mutex).Lock", "internal/race.Disable", "sync/atomic.CompareAndSwapInt32", "internal/race.Enable", "internal/race.Acquire", "(*internal/sync.Mutex).lockSlow", "internal/sync.runtime_canSpin", "internal/sync.runtime_doSpin", "internal/sync.throw", "internal/sync.runtime_nanotime", "internal/sync.runtime_SemacquireMutex", "sync/atomic.AddInt32", "(*internal/sync.Mutex).Unlock", "internal/race.ReleaseMerge", "(*internal/sync.Mutex).unlockSlow", "internal/sync.fatal", "internal/sync.runtime_Semrelease", "sync/atomic.StoreUint32"], unfollowed := true, recurses := true, named := ["strconv.ErrSyntax", "strconv.ErrRange", "internal/strconv.uint64pow10", "math/bits.deBruijn32tab", "math/bits.deBruijn64tab", "pavane/pavaneref13.level", "pavane/pavaneref13.Signs"], apart := false, laid := [("math/bits.deBruijn32tab", laid_math_bits_deBruijn32tab), ("math/bits.deBruijn64tab", laid_math_bits_deBruijn64tab), ("internal/strconv.uint64pow10", laid_internal_strconv_uint64pow10), ("pavane/pavaneref13.Signs", laid_pavane_pavaneref13_Signs), ("pavane/pavaneref13.level", laid_pavane_pavaneref13_level), ("strconv.ErrRange", laid_strconv_ErrRange), ("strconv.ErrSyntax", laid_strconv_ErrSyntax)], narrowed := true }
def FormulaKeepsUptoSaid : Prop := formulaKeepsUptoRow.holds Tryz.pinned (OpenSpec.upto formulaKeepsSpec)

/-- 'pavanelaw14.EvalDoes', WHERE WHAT IT READS IS OF BULK AT MOST 1048576: true; the input reads as it did. -/
def evalDoesUptoRow : OpenClaim := { program := "ytaldobgfbkllfaagreatdoor", sum := "93330958ebeb309b2d45417edab2bb1936a4d8545c417f119cfdf5f6109447e9", func := "pavane/pavanelaw14.EvalDoes", spec := "evalDoes", inPlace := ["internal/bytealg.abigen_runtime_cmpstring", "slices.overlaps[pavane/api.Var]"], unfollowed := true, recurses := true, named := ["strconv.ErrSyntax", "strconv.ErrRange", "internal/strconv.uint64pow10", "math/bits.deBruijn32tab", "math/bits.deBruijn64tab", "pavane/pavaneref13.level", "pavane/pavaneref13.Signs"], apart := false, laid := [("math/bits.deBruijn32tab", laid_math_bits_deBruijn32tab), ("math/bits.deBruijn64tab", laid_math_bits_deBruijn64tab), ("internal/strconv.uint64pow10", laid_internal_strconv_uint64pow10), ("pavane/pavaneref13.Signs", laid_pavane_pavaneref13_Signs), ("pavane/pavaneref13.level", laid_pavane_pavaneref13_level), ("strconv.ErrRange", laid_strconv_ErrRange), ("strconv.ErrSyntax", laid_strconv_ErrSyntax)], narrowed := true }
def EvalDoesUptoSaid : Prop := evalDoesUptoRow.holds Tryz.pinned (OpenSpec.upto evalDoesSpec)

/-- 'pavanelaw14.EvalKeeps', WHERE WHAT IT READS IS OF BULK AT MOST 1048576: true; the input reads as it did. -/
def evalKeepsUptoRow : OpenClaim := { program := "ytaldobgfbkllfaagreatdoor", sum := "93330958ebeb309b2d45417edab2bb1936a4d8545c417f119cfdf5f6109447e9", func := "pavane/pavanelaw14.EvalKeeps", spec := "evalKeeps", inPlace := ["internal/bytealg.abigen_runtime_cmpstring", "slices.overlaps[pavane/api.Var]"], unfollowed := true, recurses := true, named := ["strconv.ErrSyntax", "strconv.ErrRange", "internal/strconv.uint64pow10", "math/bits.deBruijn32tab", "math/bits.deBruijn64tab"], apart := false, laid := [("math/bits.deBruijn32tab", laid_math_bits_deBruijn32tab), ("math/bits.deBruijn64tab", laid_math_bits_deBruijn64tab), ("internal/strconv.uint64pow10", laid_internal_strconv_uint64pow10), ("strconv.ErrRange", laid_strconv_ErrRange), ("strconv.ErrSyntax", laid_strconv_ErrSyntax)], narrowed := true }
def EvalKeepsUptoSaid : Prop := evalKeepsUptoRow.holds Tryz.pinned (OpenSpec.upto evalKeepsSpec)

end Rows
end Go.Proofs.YtaldobgfbkllfaaGreatDoor
