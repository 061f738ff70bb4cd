import Derived.Test.YtccajagfgdchlaaVaiD
import Derived.Test.YtccajagfgdchlaaTryTy
set_option linter.unusedSimpArgs false
set_option linter.unusedVariables false
set_option linter.unusedSectionVars false
namespace Go.Proofs.Ytccajagfgdchlaa
open Vai
def md : FuncId → FuncId → Vai.Mode := fun c k => if k == 49 || k == 73 || (c == 14 && k == 13) || (c == 19 && k == 18) || (c == 34 && (k == 18 || k == 19 || k == 20)) then .own else if k == 59 || (c == 5 && (k == 13 || k == 14 || k == 15)) then .tree else if (25 ≤ k && k < 30) || (35 ≤ k && k < 44) || k == 60 || k == 63 || k == 64 || k == 65 || k == 67 || k == 74 || k == 75 || (c == 34 && k == 62) || (c == 62 && (k == 76 || k == 77)) then .keep else .pure
def lits : TypeId → Bool := fun t => t == 22 || t == 92
def hards : FuncId → Nat → Option (List (Nat × Nat)) := fun k i => if k == 8 && i == 24 then some [(4, 0), (5, 0), (6, 0)] else if k == 8 && i == 26 then some [(4, 0), (5, 0), (6, 0)] else if k == 8 && i == 22 then some [(4, 0), (5, 0), (6, 0)] else if k == 9 && i == 19 then some [(10, 0), (11, 0), (12, 0)] else if k == 9 && i == 21 then some [(3, 0), (4, 0), (5, 0)] else if k == 85 && i == 6 then some [(4, 1)] else if k == 86 && i == 11 then some [(4, 1)] else if k == 86 && i == 23 then some [(4, 1)] else if k == 92 && i == 3 then some [(7, 1)] else if k == 111 && i == 1 then some [(1, 1), (2, 1), (3, 1), (5, 1), (6, 1), (7, 1), (8, 1), (9, 1), (10, 1), (11, 1)] else if k == 112 && i == 2 then some [(2, 1), (3, 1), (4, 1)] else if k == 45 && i == 3 then some [(4, 0), (4, 1), (4, 9), (6, 0), (6, 1), (6, 2), (6, 9), (10, 0), (10, 1), (10, 2), (10, 3), (10, 4), (10, 9), (12, 0), (12, 1), (12, 2), (12, 3), (12, 4), (12, 5), (12, 9), (14, 0), (14, 1), (14, 2), (14, 3), (14, 4), (14, 5), (14, 6), (14, 9)] else if k == 45 && i == 6 then some [(0, 1), (0, 2), (0, 3), (0, 4), (0, 5), (1, 1), (1, 2), (1, 3), (1, 4), (1, 5), (6, 0), (6, 1), (8, 0), (8, 1), (8, 2)] else none
noncomputable def cx : Cx := ⟨Try.prog, md, lits, hards⟩
def prim : FuncId → Option ACall := fun _ => none
theorem cxP (k : FuncId) : (cx.at k).P = Try.prog := rfl
theorem cxlit (k : FuncId) (t : TypeId) : (cx.at k).lit t = lits t := rfl
theorem cxmd (k j : FuncId) : (cx.at k).md j = md k j := rfl
theorem lits_def (t : TypeId) : lits t = (t == 22 || t == 92) := rfl
theorem cxP0 : cx.P = Try.prog := rfl
theorem cxhard (k : FuncId) (i : Nat) : (cx.at k).hard i = hards k i := rfl
attribute [simp] cxhard hards cxP0 cxP cxlit cxmd lits_def
end Go.Proofs.Ytccajagfgdchlaa
