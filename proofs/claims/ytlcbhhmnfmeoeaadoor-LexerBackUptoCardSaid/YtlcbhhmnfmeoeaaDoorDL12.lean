import Derived.Test.YtlcbhhmnfmeoeaaDoorDL11
set_option linter.unusedSimpArgs false
set_option linter.unusedVariables false
set_option linter.unusedSectionVars false
namespace Go.Proofs.YtlcbhhmnfmeoeaaDoor
open Vai
set_option maxHeartbeats 0
def rtx (s : ByteArray) (fr : Nat) : ByteArray × Int × Int × Int := match txt s fr (fr + 1) [] with
  | .ok (o, e) => if 64 < o.length then (noText, 0, fr, 3) else (⟨o.toArray⟩, (e : Int) + 1, 0, 0)
  | .error (a, w) => (noText, 0, a, w)
theorem s25 {s : ByteArray} {fr : Nat} (hs : s.size ≤ 100000) (hfr : fr < s.size) : ∃ h', call cx prim 25 [.t (.str s), .t (.int .i64 fr)] .empty = some (.tup [.t (.str (rtx s fr).1), .t (.int .i64 (rtx s fr).2.1), .t (fltT (rtx s fr).2.2.1 (rtx s fr).2.2.2)], h') := by
  rw [call_run rfl Tryd.func25 ok25 nd25 rfl (Nat.le_of_ble_eq_true rfl) rfl rfl]
  have lemL := fun (st : St) (r : CR) (h : H) hK hok => l25 (hB := h) (K := 0) (s := s) (fr := fr) hK hs hfr hok (st := st) (r := r)
  have hf0 : H.empty.push (.row 27 2 [.t (.agg [.int .i64 0, .int .i64 0])]) = H.empty.push (flt 0 0) := rfl
  simp -implicitDefEqProofs (disch := omega) [-storeD, -load_ptr, -H.els, hf0]
  generalize hLp : loopω (LB cx prim 25 Tryd.f25 0) _ = R
  obtain ⟨x, ⟨nn, env, h2⟩, rfl, rfl, e6, hx⟩ := lemL _ _ (H.empty.push (flt 0 0)) (by simp) (by simp) hLp rfl (by simp) (by simp) (by simp) (by simp) (by simp) rfl
  simp only at e6
  unfold rtx
  cases htx : txt s fr (fr + 1) [] with
  | error f =>
    obtain ⟨a, w⟩ := f
    rw [htx] at hx
    simp only at hx ⊢
    rcases hx with ⟨rfl, e4, e5, ho⟩ | ⟨rfl, rfl, rfl, j, hj, hj', e0, e1, e8, ho⟩
    · have ld := fl_ld ho
      simp -implicitDefEqProofs (disch := omega) [-storeD, -load_ptr, -H.els, e6, e4, e5, ld]
      rfl
    · have fst := fl_st ho
      have c1 : (s.size : Int) ≤ j := by omega
      have ld := fun a' w' => fl_ld (h := h2.set 0 (flt a' w')) (K := 0) (a := a') (w := w') (by simp)
      simp -implicitDefEqProofs (disch := omega) [-storeD, -load_ptr, -H.els, e6, e0, e1, e8, fst, ld]
      exact ⟨rfl, rfl⟩
  | ok oe =>
    obtain ⟨o, e⟩ := oe
    rw [htx] at hx
    simp only at hx ⊢
    obtain ⟨rfl, he, e0, e1, e8, rfl, e7⟩ := hx
    have ho : (nrow 5 1 (ub o) (H.empty.push (flt 0 0))).2.objs 0 = some (flt 0 0) := by rw [nrow_objs (by simp)]; simp
    have fst := fl_st ho
    have lN := len_new (b := H.empty.push (flt 0 0)) (out := o)
    have cv := conv_new (b := H.empty.push (flt 0 0)) (out := o)
    have ld := fun h2 a' w' => fl_ld (h := H.set h2 0 (flt a' w')) (K := 0) (a := a') (w := w') (by simp)
    have c1 : ¬ (s.size : Int) ≤ e := by omega
    by_cases h64 : 64 < o.length
    · rw [if_pos h64]
      have c2 : (64 : Int) < o.length := by omega
      simp -implicitDefEqProofs (disch := omega) [-storeD, -load_ptr, -H.els, e6, e0, e1, e8, e7, fst, ld, lN]
      exact ⟨rfl, rfl⟩
    · rw [if_neg h64]
      have c2 : ¬ (64 : Int) < o.length := by omega
      simp -implicitDefEqProofs (disch := omega) [-storeD, -load_ptr, -H.els, e6, e0, e1, e8, e7, fst, ld, lN, cv]
      rfl
theorem c25 {c : FuncId} {s : ByteArray} {fr : Nat} (h : H) (hs : s.size ≤ 100000) (hfr : fr < s.size) (hm : md c 25 = .pure) : callD (cx.at c) (call cx prim) 25 [.t (.str s), .t (.int .i64 fr)] h = some (.tup [.t (.str (rtx s fr).1), .t (.int .i64 (rtx s fr).2.1), .t (fltT (rtx s fr).2.2.1 (rtx s fr).2.2.2)], h) := by
  obtain ⟨h', q⟩ := s25 hs hfr
  exact pureT cb25 hm q (by simp [snapOut]) rfl
end Go.Proofs.YtlcbhhmnfmeoeaaDoor
