import Derived.Test.YtlcbhhmnfmeoeaaDoorDL4
set_option linter.unusedSimpArgs false
set_option linter.unusedVariables false
set_option linter.unusedSectionVars false
namespace Go.Proofs.YtlcbhhmnfmeoeaaDoor
open Vai
set_option maxHeartbeats 0
theorem cut_app {s : ByteArray} {i n : Nat} : (s.extract i (i + n)).data.toList = cut s i (i + n) := by
  rw [extract_bytes, cut, show i + n - i = n by omega]
theorem l35 {h : H} {L : Nat} {s : ByteArray} {fr : Nat} {d : D} (hL : L < h.next) (hs : s.size ≤ 100000) (hfr : fr < s.size) {st : St} {r : CR} (hLp : loopω (LB cx prim 35 Tryd.f35 0) st = r) (en : st.n = 163) (e0 : st.env 0 = .ptr L 0 0 1) (e4 : st.env 4 = .t (.int .i64 fr)) (e5 : st.env 5 = .t .nilSlice) (eh : st.h = h.set L (lxO s (fr + 1 : Nat) d)) :
    ∃ x st', r = some (x, st') ∧ st'.n = 163 ∧ ∃ (out : List UInt8) (j : Nat), st'.h = (nrow 5 1 (ub out) (h.set L (lxO s j d))).2 ∧
      (match txt s fr (fr + 1) [] with
        | .ok (o, e) => x = .exit 0 ∧ o = out ∧ e = j ∧ j < s.size ∧ st'.env 0 = .ptr L 0 0 1 ∧ st'.env 4 = .t (.int .i64 fr) ∧ st'.env 5 = (nrow 5 1 (ub out) (h.set L (lxO s j d))).1
        | .error (a, w) => (x = .ret ∧ st'.env 2 = .t (.int .i64 a) ∧ st'.env 3 = .t (.int .i64 w)) ∨ (x = .exit 0 ∧ s.size ≤ j ∧ a = fr ∧ w = 84 ∧ st'.env 0 = .ptr L 0 0 1 ∧ st'.env 4 = .t (.int .i64 fr))) := by
  refine loop_uses hLp (s.size + 1) (fun k st => st.n = 163 ∧ st.env 0 = .ptr L 0 0 1 ∧ st.env 4 = .t (.int .i64 fr) ∧ ∃ (out : List UInt8) (j : Nat), fr + 1 + k ≤ j ∧ j ≤ s.size ∧ out.length ≤ j ∧ st.h = (nrow 5 1 (ub out) (h.set L (lxO s j d))).2 ∧ st.env 5 = (nrow 5 1 (ub out) (h.set L (lxO s j d))).1 ∧ txt s fr j out = txt s fr (fr + 1) []) _ ⟨en, e0, e4, [], fr + 1, by omega, by omega, by simp, by rw [eh]; rfl, by rw [e5]; rfl, rfl⟩ ?_
  rintro k ⟨nn, env, h2⟩ hk ⟨rfl, e0, e4, out, j, hj1, hj2, hout, rfl, e5, ht⟩
  simp only at e0 e4 e5
  rw [LB_run nd35 rfl]
  have ho := nb_objs (xs := ub out) (o := lxO s j d) hL
  rw [← ht]
  clear ht
  by_cases hj : s.size ≤ j
  · rw [txt, if_pos hj]
    have c1 : ¬ (j : Int) < s.size := by omega
    simp -implicitDefEqProofs (disch := omega) [-storeD, -load_ptr, -nilCheckD, -fieldAddrD, -H.els, lx_s ho, lx_at ho, lx_nil ho, lx_f0 ho, lx_f1 ho, e0, e4, e5, Wp_some]
    exact ⟨out, j, rfl, by omega⟩
  obtain ⟨b, hb, hbt⟩ := bt_get (s := s) (i := j) (by omega)
  have c1 : (j : Int) < s.size := by omega
  have hb8 := b.toNat_lt
  by_cases h34 : b.toNat = 34
  · rw [txt, if_neg hj, if_pos (by omega)]
    simp -implicitDefEqProofs (disch := omega) [-storeD, -load_ptr, -nilCheckD, -fieldAddrD, -H.els, lx_s ho, lx_at ho, lx_nil ho, lx_f0 ho, lx_f1 ho, e0, e4, e5, Wp_some, hb, h34]
    exact ⟨out, j, rfl, rfl, rfl, by omega, rfl⟩
  by_cases h92 : b.toNat = 92
  · rw [txt, if_neg hj, if_neg (by omega), if_pos (by omega)]
    have g34 : eqI (b.toNat : Int) 34 = false := eqI_false (by omega)
    by_cases hl : j + 1 = s.size
    · rw [if_pos hl]
      have hl' : (j : Int) + 1 = s.size := by omega
      simp -implicitDefEqProofs (disch := omega) [-storeD, -load_ptr, -nilCheckD, -fieldAddrD, -H.els, lx_s ho, lx_at ho, lx_nil ho, lx_f0 ho, lx_f1 ho, e0, e4, e5, Wp_some, hb, g34, h92]
      exact ⟨out, j, rfl⟩
    rw [if_neg hl]
    have hl' : eqI ((j : Int) + 1) s.size = false := eqI_false (by omega)
    obtain ⟨b1, hb1, hbt1⟩ := bt_get (s := s) (i := j + 1) (by omega)
    have g0 : ((j : Int) + 1).toNat = j + 1 := by omega
    have g00 : (0 : Int) ≤ (j : Int) + 1 := by omega
    by_cases hs1 : bt s (j + 1) ≠ 34 ∧ bt s (j + 1) ≠ 92
    · rw [if_pos hs1]
      have k34 : eqI (b1.toNat : Int) 34 = false := eqI_false (by omega)
      have k92 : eqI (b1.toNat : Int) 92 = false := eqI_false (by omega)
      simp -implicitDefEqProofs (disch := omega) [-storeD, -load_ptr, -nilCheckD, -fieldAddrD, -H.els, lx_s ho, lx_at ho, lx_nil ho, lx_f0 ho, lx_f1 ho, e0, e4, e5, Wp_some, hb, g34, h92, hl', g0, g00, hb1, k34, k92]
      exact ⟨out, j, rfl⟩
    rw [if_neg hs1]
    have ho2 := nb_objs (xs := ub out) (o := lxO s (j + 1 : Nat) d) hL
    have hst1 := lx_set ho (j + 1 : Int)
    have e1 : ((j : Int) + 1) = ((j + 1 : Nat) : Int) := by omega
    have hst2 : storeD Tryd.prog (nrow 5 1 (ub out) (h.set L (lxO s j d))).2 3 (.ptr L 0 1 1) (.t (.int .i64 ((j : Int) + 1))) = some (nrow 5 1 (ub out) (h.set L (lxO s (j + 1 : Nat) d))).2 := by
      rw [hst1, e1, nb_set hL]
    rw [e1] at hst2
    have q29 := fun h => c29 (c := 35) s (j + 1) h (by omega) rfl
    have q41 := fun h => c41 (c := 35) (nx s (j + 1)).1 h rfl
    rw [nb_fst (o' := lxO s (j + 1 : Nat) d)] at e5
    have two : b1.toNat = 34 ∨ b1.toNat = 92 := by omega
    by_cases hc : charB (nx s (j + 1)).1 = true
    · rw [dif_pos hc]
      have hnc := nx_char hc
      have hcl := cut_len (s := s) (i := j + 1) (j := j + 1 + (nx s (j + 1)).2) hnc.2
      rw [hc] at q41
      generalize hjj : j + 1 = jj at *
      have g2 := sl_str (s := s) (a := jj) (b := (jj : Int) + (nx s jj).2)
      have g1 : ((jj : Int) + (nx s jj).2).toNat = jj + (nx s jj).2 := by omega
      have hap := nb_app (h := h.set L (lxO s jj d)) (out := out) (s.extract jj (jj + (nx s jj).2)) (by
        have : (s.extract jj (jj + (nx s jj).2)).size = (nx s jj).2 := by simp [ByteArray.size_extract]; omega
        omega)
      rw [cut_app] at hap
      have ho3 := nb_objs (xs := ub (out ++ cut s jj (jj + (nx s jj).2))) (o := lxO s jj d) hL
      have hst := lx_set ho3 (jj + (nx s jj).2 : Int)
      have e : ((jj : Int) + (nx s jj).2) = ((jj + (nx s jj).2 : Nat) : Int) := by omega
      have fin : k < s.size + 1 ∧ ∃ (o : List UInt8) (j1 : Nat), fr + 1 + (k + 1) ≤ j1 ∧ j1 ≤ s.size ∧ o.length ≤ j1 ∧ (nrow 5 1 (ub (out ++ cut s jj (jj + (nx s jj).2))) (h.set L (lxO s jj d))).2.set L (lxO s ((jj : Int) + (nx s jj).2) d) = (nrow 5 1 (ub o) (h.set L (lxO s j1 d))).2 ∧ (nrow 5 1 (ub (out ++ cut s jj (jj + (nx s jj).2))) (h.set L (lxO s jj d))).1 = (nrow 5 1 (ub o) (h.set L (lxO s j1 d))).1 ∧ txt s fr j1 o = txt s fr (jj + (nx s jj).2) (out ++ cut s jj (jj + (nx s jj).2)) :=
        ⟨by omega, out ++ cut s jj (jj + (nx s jj).2), jj + (nx s jj).2, by omega, by omega, by simp; omega, by rw [e, nb_set hL], nb_fst, rfl⟩
      rcases two with h2 | h2
      · simp -implicitDefEqProofs (disch := omega) [-storeD, -load_ptr, -nilCheckD, -fieldAddrD, -H.els, lx_s ho, lx_at ho, lx_nil ho, lx_f0 ho, lx_f1 ho, lx_s ho2, lx_at ho2, lx_nil ho2, lx_f0 ho2, lx_f1 ho2, lx_at ho3, lx_nil ho3, lx_f1 ho3, e0, e4, e5, Wp_some, hb, g34, h92, hl', g0, g00, hb1, h2, e1, hst2, q29, q41, g1, g2, hap, hst]
        exact fin
      · simp -implicitDefEqProofs (disch := omega) [-storeD, -load_ptr, -nilCheckD, -fieldAddrD, -H.els, lx_s ho, lx_at ho, lx_nil ho, lx_f0 ho, lx_f1 ho, lx_s ho2, lx_at ho2, lx_nil ho2, lx_f0 ho2, lx_f1 ho2, lx_at ho3, lx_nil ho3, lx_f1 ho3, e0, e4, e5, Wp_some, hb, g34, h92, hl', g0, g00, hb1, h2, e1, hst2, q29, q41, g1, g2, hap, hst]
        exact fin
    · rw [dif_neg hc]
      have hcf : charB (nx s (j + 1)).1 = false := by simpa using hc
      rw [hcf] at q41
      generalize hjj : j + 1 = jj at *
      rcases two with h2 | h2
      · simp -implicitDefEqProofs (disch := omega) [-storeD, -load_ptr, -nilCheckD, -fieldAddrD, -H.els, lx_s ho, lx_at ho, lx_nil ho, lx_f0 ho, lx_f1 ho, lx_s ho2, lx_at ho2, lx_nil ho2, lx_f0 ho2, lx_f1 ho2, e0, e4, e5, Wp_some, hb, g34, h92, hl', g0, g00, hb1, h2, e1, hst2, q29, q41]
        exact ⟨out, jj, rfl⟩
      · simp -implicitDefEqProofs (disch := omega) [-storeD, -load_ptr, -nilCheckD, -fieldAddrD, -H.els, lx_s ho, lx_at ho, lx_nil ho, lx_f0 ho, lx_f1 ho, lx_s ho2, lx_at ho2, lx_nil ho2, lx_f0 ho2, lx_f1 ho2, e0, e4, e5, Wp_some, hb, g34, h92, hl', g0, g00, hb1, h2, e1, hst2, q29, q41]
        exact ⟨out, jj, rfl⟩
  · rw [txt, if_neg hj, if_neg (by omega), if_neg (by omega)]
    have q29 := fun h => c29 (c := 35) s j h (by omega) rfl
    have q41 := fun h => c41 (c := 35) (nx s j).1 h rfl
    have g34 : eqI (b.toNat : Int) 34 = false := eqI_false (by omega)
    have g92 : eqI (b.toNat : Int) 92 = false := eqI_false (by omega)
    by_cases hc : charB (nx s j).1 = true
    · rw [dif_pos hc]
      have hnc := nx_char hc
      rw [hc] at q41
      have g1 : ((j : Int) + (nx s j).2).toNat = j + (nx s j).2 := by omega
      have g2 := sl_str (s := s) (a := j) (b := (j : Int) + (nx s j).2)
      have hap := nb_app (h := h.set L (lxO s j d)) (out := out) (s.extract j (j + (nx s j).2)) (by
        have : (s.extract j (j + (nx s j).2)).size = (nx s j).2 := by simp [ByteArray.size_extract]; omega
        omega)
      rw [cut_app] at hap
      have ho3 := nb_objs (xs := ub (out ++ cut s j (j + (nx s j).2))) (o := lxO s j d) hL
      have hst := lx_set ho3 (j + (nx s j).2 : Int)
      simp -implicitDefEqProofs (disch := omega) [-storeD, -load_ptr, -nilCheckD, -fieldAddrD, -H.els, lx_s ho, lx_at ho, lx_nil ho, lx_f0 ho, lx_f1 ho, lx_at ho3, lx_nil ho3, lx_f1 ho3, e0, e4, e5, Wp_some, hb, g34, g92, q29, q41, g1, g2, hap, hst]
      have e : ((j : Int) + (nx s j).2) = ((j + (nx s j).2 : Nat) : Int) := by omega
      have hcl := cut_len (s := s) (i := j) (j := j + (nx s j).2) hnc.2
      exact ⟨by omega, out ++ cut s j (j + (nx s j).2), j + (nx s j).2, by omega, by omega, by simp; omega, by rw [e, nb_set hL], nb_fst, rfl⟩
    · rw [dif_neg hc]
      have hcf : charB (nx s j).1 = false := by simpa using hc
      rw [hcf] at q41
      simp -implicitDefEqProofs (disch := omega) [-storeD, -load_ptr, -nilCheckD, -fieldAddrD, -H.els, lx_s ho, lx_at ho, lx_nil ho, lx_f0 ho, lx_f1 ho, e0, e4, e5, Wp_some, hb, g34, g92, q29, q41]
      exact ⟨out, j, rfl⟩
end Go.Proofs.YtlcbhhmnfmeoeaaDoor
