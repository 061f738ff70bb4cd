import Derived.Test.YtlcbhhmnfmeoeaaDoorDL10
set_option linter.unusedSimpArgs false
set_option linter.unusedVariables false
set_option linter.unusedSectionVars false
namespace Go.Proofs.YtlcbhhmnfmeoeaaDoor
open Vai
set_option maxHeartbeats 0
theorem l25 {hB : H} {K : Nat} {s : ByteArray} {fr : Nat} (hK : K < hB.next) (hs : s.size ≤ 100000) (hfr : fr < s.size) (hok : hB.objs K = some (flt 0 0)) {st : St} {r : CR} (hLp : loopω (LB cx prim 25 Tryd.f25 0) st = r) (en : st.n = 86) (e0 : st.env 0 = .t (.str s)) (e1 : st.env 1 = .t (.int .i64 fr)) (e6 : st.env 6 = .ptr K 0 0 1) (e7 : st.env 7 = .t .nilSlice) (e8 : st.env 8 = .t (.int .i64 (fr + 1))) (eh : st.h = hB) :
    ∃ x st', r = some (x, st') ∧ st'.n = 86 ∧ st'.env 6 = .ptr K 0 0 1 ∧ 
      (match txt s fr (fr + 1) [] with
        | .ok (o, e) => x = .exit 0 ∧ e < s.size ∧ st'.env 0 = .t (.str s) ∧ st'.env 1 = .t (.int .i64 fr) ∧ st'.env 8 = .t (.int .i64 e) ∧ st'.h = (nrow 5 1 (ub o) hB).2 ∧ st'.env 7 = (nrow 5 1 (ub o) hB).1
        | .error (a, w) => (x = .ret ∧ st'.env 4 = .t (.str noText) ∧ st'.env 5 = .t (.int .i64 0) ∧ st'.h.objs K = some (flt a w)) ∨ (x = .exit 0 ∧ a = fr ∧ w = 84 ∧ ∃ j : Nat, s.size ≤ j ∧ j ≤ s.size ∧ st'.env 0 = .t (.str s) ∧ st'.env 1 = .t (.int .i64 fr) ∧ st'.env 8 = .t (.int .i64 j) ∧ st'.h.objs K = some (flt 0 0))) := by
  refine loop_uses hLp (s.size + 1) (fun k st => st.n = 86 ∧ st.env 6 = .ptr K 0 0 1 ∧ st.env 0 = .t (.str s) ∧ st.env 1 = .t (.int .i64 fr) ∧ ∃ (out : List UInt8) (j : Nat), fr + 1 + k ≤ j ∧ j ≤ s.size ∧ out.length ≤ j ∧ st.h = (nrow 5 1 (ub out) hB).2 ∧ st.env 7 = (nrow 5 1 (ub out) hB).1 ∧ st.env 8 = .t (.int .i64 j) ∧ txt s fr j out = txt s fr (fr + 1) []) _ ⟨en, e6, e0, e1, [], fr + 1, by omega, by omega, by simp, by rw [eh]; rfl, by rw [e7]; rfl, by rw [e8]; rfl, rfl⟩ ?_
  rintro k ⟨nn, env, h2⟩ hk ⟨rfl, e6, e0, e1, out, j, hj1, hj2, hout, rfl, e7, e8, ht⟩
  simp only at e0 e1 e6 e7 e8
  rw [LB_run nd25 rfl]
  have ho : (nrow 5 1 (ub out) hB).2.objs K = some (flt 0 0) := by rw [nrow_objs hK, hok]
  have fst := fl_st ho
  rw [← ht]
  clear ht
  by_cases hj : s.size ≤ j
  · rw [txt, if_pos hj]
    have c1 : ¬ (j : Int) < s.size := by omega
    simp -implicitDefEqProofs (disch := omega) [-storeD, -load_ptr, -H.els, e0, e1, e6, e7, e8, Wp_some]
    exact ⟨j, hj, hj2, rfl, ho⟩
  obtain ⟨b, hb, hbt⟩ := bt_get (s := s) (i := j) (by omega)
  have c1 : (j : Int) < s.size := by omega
  have hb8 := b.toNat_lt
  by_cases h34 : b.toNat = 34
  · rw [txt, if_neg hj, if_pos (by omega)]
    simp -implicitDefEqProofs (disch := omega) [-storeD, -load_ptr, -H.els, e0, e1, e6, e7, e8, Wp_some, hb, h34]
    omega
  have g34 : eqI (b.toNat : Int) 34 = false := eqI_false (by omega)
  by_cases h92 : b.toNat = 92
  · rw [txt, if_neg hj, if_neg (by omega), if_pos (by omega)]
    by_cases hl : j + 1 = s.size
    · rw [if_pos hl]
      have hl' : (j : Int) + 1 = s.size := by omega
      simp -implicitDefEqProofs (disch := omega) [-storeD, -load_ptr, -H.els, e0, e1, e6, e7, e8, Wp_some, hb, g34, h92, hl', fst]
      rfl
    rw [if_neg hl]
    have hl' : eqI ((j : Int) + 1) s.size = false := eqI_false (by omega)
    obtain ⟨b1, hb1, hbt1⟩ := bt_get (s := s) (i := j + 1) (by omega)
    have g0 : ((j : Int) + 1).toNat = j + 1 := by omega
    have g00 : (0 : Int) ≤ (j : Int) + 1 := by omega
    have g01 : (j : Int) + 1 < s.size := by omega
    by_cases hs1 : bt s (j + 1) ≠ 34 ∧ bt s (j + 1) ≠ 92
    · rw [if_pos hs1]
      have k34 : eqI (b1.toNat : Int) 34 = false := eqI_false (by omega)
      have k92 : eqI (b1.toNat : Int) 92 = false := eqI_false (by omega)
      simp -implicitDefEqProofs (disch := omega) [-storeD, -load_ptr, -H.els, e0, e1, e6, e7, e8, Wp_some, hb, g34, h92, hl', g0, g00, hb1, k34, k92, fst]
      rfl
    rw [if_neg hs1]
    have e1' : ((j : Int) + 1) = ((j + 1 : Nat) : Int) := by omega
    have q37 := fun h => c37 (c := 25) s (j + 1) h (by omega) rfl
    have q38 := fun h => c38 (c := 25) (nx s (j + 1)).1 h rfl
    have two : b1.toNat = 34 ∨ b1.toNat = 92 := by omega
    by_cases hc : charB (nx s (j + 1)).1 = true
    · rw [dif_pos hc]
      have hnc := nx_char hc
      have hcl := cut_len (s := s) (i := j + 1) (j := j + 1 + (nx s (j + 1)).2) hnc.2
      rw [hc] at q38
      generalize hjj : j + 1 = jj at *
      have g2 := sl_str (s := s) (a := jj) (b := (jj : Int) + (nx s jj).2)
      have g1 : ((jj : Int) + (nx s jj).2).toNat = jj + (nx s jj).2 := by omega
      have hap := nb_app (h := hB) (out := out) (s.extract jj (jj + (nx s jj).2)) (by
        have : (s.extract jj (jj + (nx s jj).2)).size = (nx s jj).2 := by simp [ByteArray.size_extract]; omega
        omega)
      rw [cut_app] at hap
      have e : ((jj : Int) + (nx s jj).2) = ((jj + (nx s jj).2 : Nat) : Int) := by omega
      have fin : k < s.size + 1 ∧ ∃ (o : List UInt8) (j1 : Nat), fr + 1 + (k + 1) ≤ j1 ∧ j1 ≤ s.size ∧ o.length ≤ j1 ∧ (nrow 5 1 (ub (out ++ cut s jj (jj + (nx s jj).2))) hB).2 = (nrow 5 1 (ub o) hB).2 ∧ (nrow 5 1 (ub (out ++ cut s jj (jj + (nx s jj).2))) hB).1 = (nrow 5 1 (ub o) hB).1 ∧ ((jj : Int) + (nx s jj).2) = j1 ∧ txt s fr j1 o = txt s fr (jj + (nx s jj).2) (out ++ cut s jj (jj + (nx s jj).2)) :=
        ⟨by omega, out ++ cut s jj (jj + (nx s jj).2), jj + (nx s jj).2, by omega, by omega, by simp; omega, rfl, rfl, by omega, rfl⟩
      rcases two with h2 | h2
      · simp -implicitDefEqProofs (disch := omega) [-storeD, -load_ptr, -H.els, e0, e1, e6, e7, e8, Wp_some, hb, g34, h92, hl', g0, g00, hb1, h2, e1', q37, q38, g1, g2, hap]
        exact fin
      · simp -implicitDefEqProofs (disch := omega) [-storeD, -load_ptr, -H.els, e0, e1, e6, e7, e8, Wp_some, hb, g34, h92, hl', g0, g00, hb1, h2, e1', q37, q38, g1, g2, hap]
        exact fin
    · rw [dif_neg hc]
      have hcf : charB (nx s (j + 1)).1 = false := by simpa using hc
      rw [hcf] at q38
      generalize hjj : j + 1 = jj at *
      rcases two with h2 | h2
      · simp -implicitDefEqProofs (disch := omega) [-storeD, -load_ptr, -H.els, e0, e1, e6, e7, e8, Wp_some, hb, g34, h92, hl', g0, g00, hb1, h2, e1', q37, q38, fst]
        rfl
      · simp -implicitDefEqProofs (disch := omega) [-storeD, -load_ptr, -H.els, e0, e1, e6, e7, e8, Wp_some, hb, g34, h92, hl', g0, g00, hb1, h2, e1', q37, q38, fst]
        rfl
  · rw [txt, if_neg hj, if_neg (by omega), if_neg (by omega)]
    have q37 := fun h => c37 (c := 25) s j h (by omega) rfl
    have q38 := fun h => c38 (c := 25) (nx s j).1 h rfl
    have g92 : eqI (b.toNat : Int) 92 = false := eqI_false (by omega)
    by_cases hc : charB (nx s j).1 = true
    · rw [dif_pos hc]
      have hnc := nx_char hc
      rw [hc] at q38
      have g1 : ((j : Int) + (nx s j).2).toNat = j + (nx s j).2 := by omega
      have g2 := sl_str (s := s) (a := j) (b := (j : Int) + (nx s j).2)
      have hap := nb_app (h := hB) (out := out) (s.extract j (j + (nx s j).2)) (by
        have : (s.extract j (j + (nx s j).2)).size = (nx s j).2 := by simp [ByteArray.size_extract]; omega
        omega)
      rw [cut_app] at hap
      simp -implicitDefEqProofs (disch := omega) [-storeD, -load_ptr, -H.els, e0, e1, e6, e7, e8, Wp_some, hb, g34, g92, q37, q38, g1, g2, hap]
      have hcl := cut_len (s := s) (i := j) (j := j + (nx s j).2) hnc.2
      exact ⟨by omega, out ++ cut s j (j + (nx s j).2), j + (nx s j).2, by omega, by omega, by simp; omega, rfl, rfl, by omega, rfl⟩
    · rw [dif_neg hc]
      have hcf : charB (nx s j).1 = false := by simpa using hc
      rw [hcf] at q38
      simp -implicitDefEqProofs (disch := omega) [-storeD, -load_ptr, -H.els, e0, e1, e6, e7, e8, Wp_some, hb, g34, g92, q37, q38, fst]
      rfl
end Go.Proofs.YtlcbhhmnfmeoeaaDoor
