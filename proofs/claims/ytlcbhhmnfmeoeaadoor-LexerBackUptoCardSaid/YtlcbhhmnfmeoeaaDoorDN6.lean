import Derived.Test.YtlcbhhmnfmeoeaaDoorU10
import Derived.Test.YtlcbhhmnfmeoeaaDoorDN4
set_option linter.unusedSimpArgs false
set_option linter.unusedVariables false
set_option linter.unusedSectionVars false
namespace Go.Proofs.YtlcbhhmnfmeoeaaDoor
open Vai
set_option maxHeartbeats 0
theorem val_f2 {h : H} {K : Nat} {s : ByteArray} (ho : h.objs K = some (valO s)) : fieldAddrD Tryd.prog h 45 (.ptr K 0 0 1) 2 = some (.ptr K 0 2 1) := by simp [fieldAddrD, H.els, ho, valO]
theorem val_l2 {h : H} {K : Nat} {s : ByteArray} (ho : h.objs K = some (valO s)) : loadD Tryd.prog h 9 (.ptr K 0 2 1) = some (.t (.str s)) := by simp [loadD, H.els, ho, valO, partD]
theorem val_f0 {h : H} {K : Nat} {s : ByteArray} (ho : h.objs K = some (valO s)) : fieldAddrD Tryd.prog h 45 (.ptr K 0 0 1) 0 = some (.ptr K 0 0 1) := by simp [fieldAddrD, H.els, ho, valO]
theorem val_l0 {h : H} {K : Nat} {s : ByteArray} (ho : h.objs K = some (valO s)) : loadD Tryd.prog h 3 (.ptr K 0 0 1) = some (.t (.int .i64 3)) := by simp [loadD, H.els, ho, valO, partD]
theorem l27 {s : ByteArray} (hs : s.size ≤ 100) {st : St} {r : CR} (hLp : loopω (LB cx prim 27 Tryd.f27 0) st = r) (en : st.n = 54) (e1 : st.env 1 = .ptr 0 0 0 1) (e3 : BR st.h (st.env 3) [34]) (e4 : st.env 4 = .t (.int .i64 0)) (ho : st.h.objs 0 = some (valO s)) (hn : 0 < st.h.next) :
    ∃ x st', r = some (x, st') ∧ x = .exit 0 ∧ st'.n = 54 ∧ BR st'.h (st'.env 3) (34 :: esc s.data.toList) := by
  refine loop_uses hLp s.size (fun k st => st.n = 54 ∧ st.env 1 = .ptr 0 0 0 1 ∧ st.env 4 = .t (.int .i64 k) ∧ BR st.h (st.env 3) (34 :: esc (s.data.toList.take k)) ∧ st.h.objs 0 = some (valO s) ∧ 0 < st.h.next) _ ⟨en, e1, e4, e3, ho, hn⟩ ?_
  rintro k ⟨nn, env, h2⟩ hk ⟨rfl, e1, e4, hb, ho, hn⟩
  simp only at e1 e4 hb ho hn
  rw [LB_run nd27 rfl]
  have f2 := val_f2 ho
  have l2 := val_l2 ho
  by_cases hk' : k < s.size
  · obtain ⟨b, hbb, hbt⟩ := bt_get hk'
    have c1 : (k : Int) < s.size := by omega
    have hel := esc_len (s.data.toList.take k)
    have hes : esc (s.data.toList.take (k + 1)) = esc (s.data.toList.take k) ++ escB b := by
      have hg : s.data.toList[k]? = some b := by simpa using hbb
      have hlt : k < s.data.toList.length := by rw [len_bytes]; exact hk'
      rw [List.take_succ_eq_append_getElem hlt]
      rw [List.getElem?_eq_getElem hlt] at hg
      rw [Option.some.inj hg]
      simp [esc]
    simp only [List.length_take, len_bytes] at hel
    have keep : ∀ (h3 : H) (K : Nat), h3.objs K = some (valO s) → ∀ es, h3.objs K ≠ some (.row 5 1 es) := fun h3 K h es e => by
      rw [h] at e
      simp [valO] at e
    have hll : (34 :: esc (s.data.toList.take k)).length ≤ 1000000 := by simp; omega
    obtain ⟨d1, h1, qa1, rb1, rn1, ro1⟩ := hb.add1 hll b
    by_cases hx : b.toNat = 34 ∨ b.toNat = 92
    · have hbx : b = 34 ∨ b = 92 := by
        rcases hx with h | h
        · exact .inl (UInt8.toNat_inj.1 h)
        · exact .inr (UInt8.toNat_inj.1 h)
      rw [show escB b = [92, b] from if_pos hbx] at hes
      obtain ⟨d2, h2', qa2, rb2, rn2, ro2⟩ := hb.add1 hll 92
      obtain ⟨d3, h3, qa3, rb3, rn3, ro3⟩ := rb2.add1 (by simp; omega) b
      have ho2 := ro2 0 hn (keep _ _ ho)
      rw [ho] at ho2
      have ho3 := ro3 0 (by omega) (keep _ _ ho2)
      rw [ho2] at ho3
      have f22 := val_f2 ho2
      have l22 := val_l2 ho2
      have fin : BR h3 d3 (34 :: esc (s.data.toList.take (k + 1))) := by rw [hes]; simpa using rb3
      have qa2' : appendD Tryd.prog (h2.push (.row 5 1 [.t (.int .u8 92)])) 40 (env 3) (.row h2.next 0 1 1) = some (d2, h2') := qa2
      rcases hx with hx | hx
      · simp only [hx, show ((34 : Nat) : Int) = 34 from rfl] at qa3
        simp -implicitDefEqProofs (disch := omega) [-storeD, -load_ptr, -fieldAddrD, -H.els, e1, e4, f2, l2, f22, l22, hbb, hx, Wp_some, buildSliceD, List.replicate, qa2', qa3]
        exact ⟨hk', fin, ho3, by omega⟩
      · simp only [hx, show ((92 : Nat) : Int) = 92 from rfl] at qa3
        simp -implicitDefEqProofs (disch := omega) [-storeD, -load_ptr, -fieldAddrD, -H.els, e1, e4, f2, l2, f22, l22, hbb, hx, Wp_some, buildSliceD, List.replicate, qa2', qa3]
        exact ⟨hk', fin, ho3, by omega⟩
    · have hbx : ¬ (b = 34 ∨ b = 92) := by
        rintro (rfl | rfl)
        · exact hx (.inl rfl)
        · exact hx (.inr rfl)
      rw [show escB b = [b] from if_neg hbx] at hes
      have ho1 := ro1 0 hn (keep _ _ ho)
      rw [ho] at ho1
      have g34 : eqI (b.toNat : Int) 34 = false := eqI_false (by omega)
      have g92 : eqI (b.toNat : Int) 92 = false := eqI_false (by omega)
      simp -implicitDefEqProofs (disch := omega) [-storeD, -load_ptr, -fieldAddrD, -H.els, e1, e4, f2, l2, hbb, g34, g92, Wp_some, buildSliceD, List.replicate, qa1]
      exact ⟨hk', by rw [hes]; exact rb1, ho1, by omega⟩
  · obtain rfl : k = s.size := by omega
    rw [List.take_of_length_le (by rw [len_bytes]; omega)] at hb
    simp -implicitDefEqProofs (disch := omega) [-storeD, -load_ptr, -fieldAddrD, -H.els, e1, e4, f2, l2, Wp_some]
    exact hb
theorem s27 {s : ByteArray} (hm : mayS s = true) : ∃ h', call cx prim 27 [.t (.agg [.int .i64 3, .int .i64 0, .str s])] .empty = some (.t (.str ⟨(34 :: (esc s.data.toList ++ [34])).toArray⟩), h') := by
  rw [call_run rfl Tryd.func27 ok27 nd27 rfl (Nat.le_of_ble_eq_true rfl) rfl rfl]
  have hs : s.size ≤ 64 := by simp [mayS] at hm; exact hm.1
  have q16 := fun h => c16 (c := 27) s h (by omega) rfl
  rw [hm] at q16
  have lemL := fun (st : St) (r : CR) => l27 (s := s) (by omega) (st := st) (r := r)
  have hpush : H.empty.push (.row 45 3 [.t (.agg [.int .i64 3, .int .i64 0, .str s])]) = H.empty.push (valO s) := rfl
  have hv : (H.empty.push (valO s)).objs 0 = some (valO s) := by simp
  have ld := val_ld hv
  have f0 := val_f0 hv
  have l0 := val_l0 hv
  simp -implicitDefEqProofs (disch := omega) [-storeD, -load_ptr, -fieldAddrD, -H.els, q16, hpush, ld, f0, l0, buildSliceD, List.replicate]
  generalize hLp : loopω (LB cx prim 27 Tryd.f27 0) _ = R
  obtain ⟨x, ⟨nn, env, h2⟩, rfl, rfl, rfl, hb⟩ := lemL _ _ hLp rfl (by simp) (.inr ⟨1, by simp, by simp, by simp [ub]⟩) (by simp) (by simp) (by simp)
  simp only at hb
  have hel := esc_len s.data.toList
  rw [len_bytes] at hel
  obtain ⟨d', h', qa, rb, _, _⟩ := hb.add1 (by simp; omega) 34
  have cv := rb.conv
  have qa' : appendD Tryd.prog (h2.push (.row 5 1 [.t (.int .u8 34)])) 40 (env 3) (.row h2.next 0 1 1) = some (d', h') := qa
  simp only [List.cons_append] at cv
  simp -implicitDefEqProofs (disch := omega) [-storeD, -load_ptr, -H.els, buildSliceD, List.replicate, qa', cv]
theorem c27 {c : FuncId} {s : ByteArray} (h : H) (hm : mayS s = true) (hmd : md c 27 = .pure) : callD (cx.at c) (call cx prim) 27 [.t (.agg [.int .i64 3, .int .i64 0, .str s])] h = some (.t (.str ⟨(34 :: (esc s.data.toList ++ [34])).toArray⟩), h) := by
  obtain ⟨h', q⟩ := s27 hm
  exact pureT cb27 hmd q rfl rfl
theorem s13 {t : Tk} (hg : GoodT t) : ∃ h', call cx prim 13 [.t t.t] .empty = some (.t (.str ⟨(wr t).toArray⟩), h') := by
  rw [call_run rfl Tryd.func13 ok13 nd13 rfl (Nat.le_of_ble_eq_true rfl) rfl rfl]
  obtain ⟨k, x, n, p⟩ := t
  unfold wr
  simp only [GoodT] at hg
  rcases hg with ⟨rfl, rfl, m, rfl, hm⟩ | ⟨rfl, rfl, h1, h2⟩ | ⟨rfl, rfl, _⟩ | ⟨rfl, rfl, _⟩
  · have q14 := fun h => c14 (c := 13) (x := (m : Int)) h (by omega) (by omega) rfl
    simp -implicitDefEqProofs (disch := omega) [Tk.t, q14]
  · have q27 := fun h => c27 (c := 13) (s := x) h (by simp [mayS, h1, h2]) rfl
    simp -implicitDefEqProofs (disch := omega) [Tk.t, q27]
  · simp -implicitDefEqProofs (disch := omega) [Tk.t]
  · simp -implicitDefEqProofs (disch := omega) [Tk.t]
theorem c13 {c : FuncId} {t : Tk} (h : H) (hg : GoodT t) (hm : md c 13 = .pure) : callD (cx.at c) (call cx prim) 13 [.t t.t] h = some (.t (.str ⟨(wr t).toArray⟩), h) := by
  obtain ⟨h', q⟩ := s13 hg
  exact pureT cb13 hm q rfl rfl
end Go.Proofs.YtlcbhhmnfmeoeaaDoor
