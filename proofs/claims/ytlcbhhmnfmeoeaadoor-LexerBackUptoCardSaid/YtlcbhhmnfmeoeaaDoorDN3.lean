import Derived.Test.YtlcbhhmnfmeoeaaDoorDN2
set_option linter.unusedSimpArgs false
set_option linter.unusedVariables false
set_option linter.unusedSectionVars false
namespace Go.Proofs.YtlcbhhmnfmeoeaaDoor
open Vai
set_option maxHeartbeats 0
theorem BR.push {h : H} {d : D} {l : List UInt8} (hb : BR h d l) (o : AObj) : BR (h.push o) d l := by
  rcases hb with hb | ⟨id, h1, h2, h3⟩
  · exact .inl hb
  · exact .inr ⟨id, by simp; omega, h2, by simp only [push_objs, upd_ne _ _ (show id ≠ h.next by omega)]; exact h3⟩
/-- One byte is laid behind. -/
theorem BR.add1 {h : H} {d : D} {l : List UInt8} (hb : BR h d l) (hl : l.length ≤ 1000000) (b : UInt8) :
    ∃ d' h', appendD Tryd.prog (h.push (.row 5 1 [.t (.int .u8 (b.toNat : Int))])) 40 d (.row h.next 0 1 1) = some (d', h') ∧ BR h' d' (l ++ [b]) ∧ h.next ≤ h'.next ∧ ∀ K, K < h.next → (∀ es, h.objs K ≠ some (.row 5 1 es)) → h'.objs K = h.objs K := by
  have hs0 : BR (h.push (.row 5 1 [.t (.int .u8 (b.toNat : Int))])) (.row h.next 0 1 1) [b] := .inr ⟨h.next, by simp, rfl, by simp [ub]⟩
  have hsrc : sourceD (h.push (.row 5 1 [.t (.int .u8 (b.toNat : Int))])) (.row h.next 0 1 1) = some ((ub [b]).map .t) := by simp [sourceD, H.els, ub]
  rcases hb.push (.row 5 1 [.t (.int .u8 (b.toNat : Int))]) with ⟨rfl, rfl⟩ | ⟨id, h1, rfl, h3⟩
  · refine ⟨_, _, append_nil (P := Tryd.prog) (t := 40) (e := 5) (s := 1) (b := 1) (ys := ub [b]) tk40 sz5 byt5 zero5 rfl (by decide) hsrc (ub_cells _) (by simp [ub]) (by simp [ub]), ?_, ?_, ?_⟩
    · exact .inr ⟨h.next + 1, by simp [nrow, ub], by simp [nrow, ub], by simp [nrow, ub]⟩
    · simp [nrow, ub]
      omega
    · intro K hK _
      simp [show ¬ K = h.next by omega, show ¬ K = h.next + 1 by omega]
  · refine ⟨_, _, append_at h3 rfl hsrc (by simp; omega), .inr ⟨id, by simpa using h1, rfl, by simp⟩, by simp, ?_⟩
    intro K hK hne
    have hid : K ≠ id := fun e => by
      subst e
      simp only [push_objs, upd_ne _ _ (show K ≠ h.next by omega)] at h3
      exact hne _ h3
    simp only [set_objs, upd_ne _ _ hid, push_objs, upd_ne _ _ (show K ≠ h.next by omega)]
/-- A value that is a text, in memory. -/
def valO (s : ByteArray) : AObj := .row 45 3 [.t (.agg [.int .i64 3, .int .i64 0, .str s])]
theorem val_ld {h : H} {K : Nat} {s : ByteArray} (ho : h.objs K = some (valO s)) : loadD Tryd.prog h 45 (.ptr K 0 0 1) = some (.t (.agg [.int .i64 3, .int .i64 0, .str s])) := by simp [loadD, H.els, ho, valO, partD]
theorem l7 {s : ByteArray} (hs : s.size ≤ 100) {st : St} {r : CR} (hLp : loopω (LB cx prim 7 Tryd.f7 0) st = r) (en : st.n = 92) (e0 : st.env 0 = .t (.str s)) (e3 : st.env 3 = .ptr 0 0 0 1) (e4 : st.env 4 = .t .nilSlice) (e5 : st.env 5 = .t (.int .i64 0)) (ho : st.h.objs 0 = some (valO s)) (hn : 0 < st.h.next) :
    ∃ x st', r = some (x, st') ∧ x = .exit 0 ∧ st'.n = 92 ∧ st'.env 0 = .t (.str s) ∧ st'.env 3 = .ptr 0 0 0 1 ∧ BR st'.h (st'.env 4) (esc s.data.toList) ∧ st'.h.objs 0 = some (valO s) := by
  refine loop_uses hLp s.size (fun k st => st.n = 92 ∧ st.env 0 = .t (.str s) ∧ st.env 3 = .ptr 0 0 0 1 ∧ st.env 5 = .t (.int .i64 k) ∧ BR st.h (st.env 4) (esc (s.data.toList.take k)) ∧ st.h.objs 0 = some (valO s) ∧ 0 < st.h.next) _ ⟨en, e0, e3, e5, .inl ⟨rfl, e4⟩, ho, hn⟩ ?_
  rintro k ⟨nn, env, h2⟩ hk ⟨rfl, e0, e3, e5, hb, ho, hn⟩
  simp only at e0 e3 e5 hb ho hn
  rw [LB_run nd7 rfl]
  by_cases hk' : k < s.size
  · obtain ⟨b, hbb, hbt⟩ := bt_get hk'
    have c1 : (k : Int) < s.size := by omega
    have hel := esc_len (s.data.toList.take k)
    have hes : esc (s.data.toList.take (k + 1)) = esc (s.data.toList.take k) ++ escB b := by
      have hg : s.data.toList[k]? = some b := by simpa using hbb
      have hlt : k < s.data.toList.length := by rw [len_bytes]; exact hk'
      rw [List.take_succ_eq_append_getElem hlt]
      rw [List.getElem?_eq_getElem hlt] at hg
      rw [Option.some.inj hg]
      simp [esc]
    simp only [List.length_take, len_bytes] at hel
    have keep : ∀ (h3 : H) (K : Nat), h3.objs K = some (valO s) → ∀ es, h3.objs K ≠ some (.row 5 1 es) := fun h3 K h es e => by
      rw [h] at e
      simp [valO] at e
    obtain ⟨d1, h1, qa1, rb1, rn1, ro1⟩ := hb.add1 (by omega) b
    by_cases hx : b.toNat = 34 ∨ b.toNat = 92
    · have hbx : b = 34 ∨ b = 92 := by
        rcases hx with h | h
        · exact .inl (UInt8.toNat_inj.1 h)
        · exact .inr (UInt8.toNat_inj.1 h)
      rw [show escB b = [92, b] from if_pos hbx] at hes
      obtain ⟨d2, h2', qa2, rb2, rn2, ro2⟩ := hb.add1 (by omega) 92
      obtain ⟨d3, h3, qa3, rb3, rn3, ro3⟩ := rb2.add1 (by simp; omega) b
      have ho2 := ro2 0 hn (keep _ _ ho)
      rw [ho] at ho2
      have ho3 := ro3 0 (by omega) (keep _ _ ho2)
      rw [ho2] at ho3
      have fin : BR h3 d3 (esc (s.data.toList.take (k + 1))) := by rw [hes]; simpa using rb3
      have qa2' : appendD Tryd.prog (h2.push (.row 5 1 [.t (.int .u8 92)])) 40 (env 4) (.row h2.next 0 1 1) = some (d2, h2') := qa2
      rcases hx with hx | hx
      · simp only [hx, show ((34 : Nat) : Int) = 34 from rfl] at qa3
        simp -implicitDefEqProofs (disch := omega) [-storeD, -load_ptr, -H.els, e0, e3, e5, hbb, hx, Wp_some, buildSliceD, List.replicate, qa2', qa3]
        exact ⟨hk', fin, ho3, by omega⟩
      · simp only [hx, show ((92 : Nat) : Int) = 92 from rfl] at qa3
        simp -implicitDefEqProofs (disch := omega) [-storeD, -load_ptr, -H.els, e0, e3, e5, hbb, hx, Wp_some, buildSliceD, List.replicate, qa2', qa3]
        exact ⟨hk', fin, ho3, by omega⟩
    · have hbx : ¬ (b = 34 ∨ b = 92) := by
        rintro (rfl | rfl)
        · exact hx (.inl rfl)
        · exact hx (.inr rfl)
      rw [show escB b = [b] from if_neg hbx] at hes
      have ho1 := ro1 0 hn (keep _ _ ho)
      rw [ho] at ho1
      have g34 : eqI (b.toNat : Int) 34 = false := eqI_false (by omega)
      have g92 : eqI (b.toNat : Int) 92 = false := eqI_false (by omega)
      simp -implicitDefEqProofs (disch := omega) [-storeD, -load_ptr, -H.els, e0, e3, e5, hbb, g34, g92, Wp_some, buildSliceD, List.replicate, qa1]
      exact ⟨hk', by rw [hes]; exact rb1, ho1, by omega⟩
  · obtain rfl : k = s.size := by omega
    rw [List.take_of_length_le (by rw [len_bytes]; omega)] at hb
    simp -implicitDefEqProofs (disch := omega) [-storeD, -load_ptr, -H.els, e0, e3, e5, Wp_some]
    exact ⟨hb, ho⟩
end Go.Proofs.YtlcbhhmnfmeoeaaDoor
