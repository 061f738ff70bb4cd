import Derived.Test.YtlcbhhmnfmeoeaaDoorVaiD
import Derived.Test.YtlcbhhmnfmeoeaaDoorDTy
import Derived.Lib.ParseIntBMem
set_option linter.unusedSimpArgs false
set_option linter.unusedVariables false
set_option linter.unusedSectionVars false
namespace Go.Proofs.YtlcbhhmnfmeoeaaDoor
open Vai
def md : FuncId → FuncId → Vai.Mode := fun c k => if k == 18 || k == 20 || k == 31 || k == 33 || k == 35 || k == 36 || k == 42 || k == 43 || k == 46 || k == 40 || (c == 8 && k == 9) then .keep else .pure
def lits : TypeId → Bool := fun t => t == 22 || t == 33
def hards : FuncId → Nat → Option (List (Nat × Nat)) := fun k i => if k == 39 && i == 7 then some [(0, 1), (1, 1), (2, 1), (3, 1)] else if k == 39 && i == 9 then some [(0, 1), (0, 2), (1, 1), (1, 2), (2, 1), (2, 2), (3, 1), (3, 2)] else if k == 39 && i == 10 then some [(0, 1), (0, 2), (0, 3), (1, 1), (1, 2), (1, 3), (2, 1), (2, 2), (2, 3), (3, 1), (3, 2), (3, 3)] else none
noncomputable def cx : Cx := ⟨Tryd.prog, md, lits, hards⟩
/-- strconv.ParseInt(s, 10, 64): what it answers. -/
def parseA : ACall := fun _ args h => match args with
  | [.t (.str s), .t (.int .i64 b), .t (.int .i64 z)] => if b = 10 ∧ z = 64 ∧ s.size ≤ 1000000000 then match Lib.parseIntB 64 s.data.toList with
      | .ok v => some (.tup [.t (.int .i64 v), .t .nilIface], h)
      | _ => some (.tup [.undef, .iface 78 .undef], h)
    else none
  | _ => none
def prim : FuncId → Option ACall := fun k => if k = 40 then some parseA else none
theorem cxP (k : FuncId) : (cx.at k).P = Tryd.prog := rfl
theorem cxlit (k : FuncId) (t : TypeId) : (cx.at k).lit t = lits t := rfl
theorem cxmd (k j : FuncId) : (cx.at k).md j = md k j := rfl
theorem lits_def (t : TypeId) : lits t = (t == 22 || t == 33) := rfl
theorem cxP0 : cx.P = Tryd.prog := rfl
theorem cxhard (k : FuncId) (i : Nat) : (cx.at k).hard i = hards k i := rfl
attribute [simp] cxhard hards cxP0 cxP cxlit cxmd lits_def
end Go.Proofs.YtlcbhhmnfmeoeaaDoor
