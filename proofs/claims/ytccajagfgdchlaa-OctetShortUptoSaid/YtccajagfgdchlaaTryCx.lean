import Derived.Test.YtccajagfgdchlaaVaiD
import Derived.Test.YtccajagfgdchlaaTryTy
set_option linter.unusedSimpArgs false
set_option linter.unusedVariables false
namespace Go.Proofs.Ytccajagfgdchlaa
open Vai
def md : FuncId → FuncId → Vai.Mode := fun c k => if k == 49 || k == 73 || (c == 14 && k == 13) || (c == 19 && k == 18) then .own else if k == 59 then .tree else if (25 ≤ k && k < 30) || (35 ≤ k && k < 44) || k == 60 || k == 63 || k == 64 || k == 65 || k == 67 || k == 74 || k == 75 then .keep else .pure
def lits : TypeId → Bool := fun t => t == 22 || t == 92
noncomputable def cx : Cx := ⟨Try.prog, md, lits, fun _ _ => false⟩
def prim : FuncId → Option ACall := fun _ => none
theorem cxP (k : FuncId) : (cx.at k).P = Try.prog := rfl
theorem cxlit (k : FuncId) (t : TypeId) : (cx.at k).lit t = lits t := rfl
theorem cxmd (k j : FuncId) : (cx.at k).md j = md k j := rfl
theorem lits_def (t : TypeId) : lits t = (t == 22 || t == 92) := rfl
theorem cxP0 : cx.P = Try.prog := rfl
attribute [simp] cxP0 cxP cxlit cxmd lits_def
end Go.Proofs.Ytccajagfgdchlaa
