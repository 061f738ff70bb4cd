import Derived.Test.YtlcbhhmnfmeoeaaDoorDL9
set_option linter.unusedSimpArgs false
set_option linter.unusedVariables false
set_option linter.unusedSectionVars false
namespace Go.Proofs.YtlcbhhmnfmeoeaaDoor
open Vai
set_option maxHeartbeats 0
/-- A fault in memory. -/
def fltT (a w : Int) : T := .agg [.int .i64 a, .int .i64 w]
def flt (a w : Int) : AObj := .row 27 2 [.t (.agg [.int .i64 a, .int .i64 w])]
theorem nrow_objs {h : H} {bt : TypeId} {k L : Nat} {xs : List T} (hL : L < h.next) : (nrow bt k xs h).2.objs L = h.objs L := by
  unfold nrow
  split
  · rfl
  · simp only [push_objs, upd_ne _ _ (show L ≠ h.next by omega)]
section
variable {h : H} {K : Nat} {a w : Int} (ho : h.objs K = some (flt a w))
include ho
theorem fl_els : h.els K 1 = some (27, 2, [.t (.agg [.int .i64 a, .int .i64 w])]) := by simp [H.els, ho, flt]
theorem fl_ld : loadD Tryd.prog h 27 (.ptr K 0 0 1) = some (.t (.agg [.int .i64 a, .int .i64 w])) := by simp [-H.els, loadD, fl_els ho, partD]
theorem fl_f0 : fieldAddrD Tryd.prog h 27 (.ptr K 0 0 1) 0 = some (.ptr K 0 0 1) := by simp [-H.els, fieldAddrD, fl_els ho]
theorem fl_f1 : fieldAddrD Tryd.prog h 27 (.ptr K 0 0 1) 1 = some (.ptr K 0 1 1) := by simp [-H.els, fieldAddrD, fl_els ho]
theorem fl_l0 : loadD Tryd.prog h 3 (.ptr K 0 0 1) = some (.t (.int .i64 a)) := by simp [-H.els, loadD, fl_els ho, partD]
theorem fl_l1 : loadD Tryd.prog h 3 (.ptr K 0 1 1) = some (.t (.int .i64 w)) := by simp [-H.els, loadD, fl_els ho, partD]
theorem fl_st (a' w' : Int) : storeD Tryd.prog h 27 (.ptr K 0 0 1) (.t (.agg [.int .i64 a', .int .i64 w'])) = some (h.set K (flt a' w')) := by
  have hm : h.mays K [D.t (.int .i64 a'), D.t (.int .i64 w')] = true := mays_trees h K [.int .i64 a', .int .i64 w']
  simp [-H.els, -H.mays, storeD, fl_els ho, hm, flt]
end
end Go.Proofs.YtlcbhhmnfmeoeaaDoor
