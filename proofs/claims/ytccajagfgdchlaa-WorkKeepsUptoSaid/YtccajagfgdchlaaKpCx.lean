import Derived.Test.YtccajagfgdchlaaVaiD
import Derived.Test.YtccajagfgdchlaaTryTy
set_option linter.unusedSimpArgs false
set_option linter.unusedVariables false
/-
  The calls' modes where what is answered is new memory, which the law then writes into.
-/
namespace Go.Proofs.Ytccajagfgdchlaa.Kp
open Vai
def md : FuncId → FuncId → Vai.Mode := fun c k => if k == 49 || k == 73 || (c == 14 && k == 13) || (c == 19 && k == 18) || ((c == 56 || c == 21) && k == 53) || (c == 34 && (k == 18 || k == 19 || k == 20)) then .own else if k == 59 then .tree else if (25 ≤ k && k < 30) || (35 ≤ k && k < 44) || k == 60 || k == 63 || k == 64 || k == 65 || k == 67 || k == 74 || k == 75 || (c == 7 && (k == 21 || k == 22 || k == 23 || k == 30 || k == 31 || k == 32)) || ((c == 22 || c == 23 || c == 30 || c == 31 || c == 32) && k == 56) || (c == 34 && k == 62) || (c == 62 && (k == 76 || k == 77)) then .keep else .pure
def lits : TypeId → Bool := fun t => t == 22 || t == 92
def hards : FuncId → Nat → Option (List (Nat × Nat)) := fun k i => if k == 7 && i == 8 then some [(0, 1), (0, 2), (1, 1), (1, 2), (2, 1), (2, 2), (3, 1), (3, 2), (6, 0), (7, 0)] else none
noncomputable def cx : Cx := ⟨Try.prog, md, lits, hards⟩
def prim : FuncId → Option ACall := fun _ => none
theorem cxP (k : FuncId) : (cx.at k).P = Try.prog := rfl
theorem cxlit (k : FuncId) (t : TypeId) : (cx.at k).lit t = lits t := rfl
theorem cxmd (k j : FuncId) : (cx.at k).md j = md k j := rfl
theorem lits_def (t : TypeId) : lits t = (t == 22 || t == 92) := rfl
theorem cxP0 : cx.P = Try.prog := rfl
theorem cxhard (k : FuncId) (i : Nat) : (cx.at k).hard i = hards k i := rfl
attribute [simp] cxhard hards cxP0 cxP cxlit cxmd lits_def
end Go.Proofs.Ytccajagfgdchlaa.Kp
