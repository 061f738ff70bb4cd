import Derived.Test.YtlcbhhmnfmeoeaaDoorDU1
set_option linter.unusedSimpArgs false
set_option linter.unusedVariables false
set_option linter.unusedSectionVars false
namespace Go.Proofs.YtlcbhhmnfmeoeaaDoor
open Vai
set_option maxHeartbeats 0
/-! utf.Next -/
theorem l29 (cs : List UInt8) (hL : cs.length ≤ 3) (r0 : Nat) (hr : r0 < 32) {st : St} {r : CR} {h : H} {a b c : D} (hLp : loopω (LB cx prim 29 Tryd.f29 1) st = r) (en : st.n = 84) (eh : st.h = h) (e0 : st.env 0 = a) (e1 : st.env 1 = b) (e7 : st.env 7 = c) (e61 : st.env 61 = .t (.slice (ub cs))) (e62 : st.env 62 = .t (.int .i64 cs.length)) (e63 : st.env 63 = .t (.int .i64 0)) (e6 : st.env 6 = .t (.int .i32 r0)) :
    ∃ x st', r = some (x, st') ∧ st'.n = 84 ∧ st'.h = h ∧ st'.env 0 = a ∧ st'.env 1 = b ∧ st'.env 7 = c ∧
      (if cs.all (fun c => contB c.toNat) = true then x = .exit 1 ∧ st'.env 6 = .t (.int .i32 (accR r0 cs)) else x = .ret ∧ st'.env 4 = .t (.int .i32 0) ∧ st'.env 5 = .t (.int .i64 0)) := by
  refine loop_uses hLp cs.length (fun k st => st.n = 84 ∧ st.h = h ∧ st.env 0 = a ∧ st.env 1 = b ∧ st.env 7 = c ∧ st.env 61 = .t (.slice (ub cs)) ∧ st.env 62 = .t (.int .i64 cs.length) ∧ st.env 63 = .t (.int .i64 k) ∧ st.env 6 = .t (.int .i32 (accR r0 (cs.take k))) ∧ (cs.take k).all (fun c => contB c.toNat) = true) _ ⟨en, eh, e0, e1, e7, e61, e62, e63, by simpa [accR] using e6, rfl⟩ ?_
  rintro k ⟨nn, env, h2⟩ hk ⟨rfl, rfl, e0, e1, e7, e61, e62, e63, e6, hall⟩
  simp only at e0 e1 e7 e61 e62 e63 e6
  rw [LB_run nd29 rfl]
  by_cases hk' : k < cs.length
  · have hget : (ub cs)[k]? = some (.int .u8 (cs[k].toNat)) := by rw [ub_get, List.getElem?_eq_getElem hk']; rfl
    have h8 := cs[k].toNat_lt
    have hacc : accR r0 (cs.take k) < 32 * 64 ^ 2 := by
      have h1 := accR_lt r0 (cs.take k)
      have h2 : (cs.take k).length = k := by simp; omega
      rw [h2] at h1
      have h3 : (64 : Nat) ^ k ≤ 64 ^ 2 := Nat.pow_le_pow_right (by omega) (by omega)
      exact Nat.lt_of_lt_of_le h1 (Nat.mul_le_mul (by omega) h3)
    have h64 : (32 * 64 ^ 2 : Nat) = 131072 := by decide
    rw [h64] at hacc
    have hsnoc : accR r0 (cs.take (k + 1)) = accR r0 (cs.take k) * 64 + cs[k].toNat % 64 := by rw [← accR_snoc]; simp
    have hs2 : (cs.take (k + 1)).all (fun c => contB c.toNat) = contB cs[k].toNat := by
      rw [show cs.take (k + 1) = cs.take k ++ [cs[k]] by simp, List.all_append, hall]; simp
    have h6 : intBitsT .or .i32 ((accR r0 (cs.take k) : Int) * 64) ((cs[k].toNat % 64 : Nat) : Int) = some ((accR r0 (cs.take k) : Int) * 64 + (cs[k].toNat % 64 : Nat)) := or6 (by omega) (by omega)
    have hw : IntKind.i32.wrap ((accR r0 (cs.take k) : Int) * 64) = (accR r0 (cs.take k) : Int) * 64 := wrap_i32 (by omega) (by omega)
    have hc1 : ((cs[k].toNat % 64 : Nat) : Int) = (cs[k].toNat : Int) % 64 := by omega
    rw [hc1] at h6
    by_cases hc : contB cs[k].toNat = true
    · have hcc : (cs[k].toNat : Int) / 64 * 64 = 128 := by simp only [contB, beq_iff_eq] at hc; omega
      simp -implicitDefEqProofs (disch := omega) [e0, e1, e7, e61, e62, e63, e6, hget, and192, and63, hcc, h6, hw, hk', Wp_some]
      exact ⟨by rw [hsnoc]; omega, by simpa using hs2.trans hc⟩
    · have hcc : ¬ (cs[k].toNat : Int) / 64 * 64 = 128 := by simp only [contB, beq_iff_eq] at hc; omega
      have hnall : ¬ cs.all (fun c => contB c.toNat) = true := fun h => hc (by rw [List.all_eq_true] at h; exact h _ (List.getElem_mem hk'))
      simp -implicitDefEqProofs (disch := omega) [e0, e1, e7, e61, e62, e63, e6, hget, and192, and63, hcc, h6, hw, hk', Wp_some, hnall]
  · obtain rfl : k = cs.length := by omega
    rw [List.take_length] at e6 hall
    simp -implicitDefEqProofs (disch := omega) [e0, e1, e7, e61, e62, e63, e6, hall, Wp_some]
theorem sl_str {s : ByteArray} {a b : Int} (h : H) (h0 : 0 ≤ a) (h1 : a ≤ b) (h2 : b ≤ s.size) : sliceD Tryd.prog h 9 (.t (.str s)) (some (.t (.int .i64 a))) (some (.t (.int .i64 b))) none = some (.t (.str (s.extract a.toNat b.toNat))) := by
  simp [sliceD, h0, h1, h2]
theorem s29 (s : ByteArray) (i : Nat) (hs : s.size ≤ 1000000000) : ∃ h', call cx prim 29 [.t (.str s), .t (.int .i64 i)] .empty = some (.tup [.t (.int .i32 (nx s i).1), .t (.int .i64 (nx s i).2)], h') := by
  rw [call_run rfl Tryd.func29 ok29 nd29 rfl (Nat.le_of_ble_eq_true rfl) rfl rfl]
  by_cases hi : s.size ≤ i
  · have e : nx s i = (0, 0) := by unfold nx; rw [if_pos hi]
    rw [e]
    simp -implicitDefEqProofs (disch := omega) []
  obtain ⟨b, hb, hbt⟩ := bt_get (s := s) (i := i) (by omega)
  have hb8 := b.toNat_lt
  by_cases c1 : b.toNat < 128
  · have e : nx s i = ((b.toNat : Int), 1) := by unfold nx; rw [if_neg hi]; simp only [hbt]; rw [if_pos c1]
    rw [e]
    simp -implicitDefEqProofs (disch := omega) [hb, c1]
  by_cases c2 : b.toNat < 192
  · have e : nx s i = (0, 0) := by unfold nx; rw [if_neg hi]; simp only [hbt]; rw [if_neg c1, if_pos c2]
    rw [e]
    simp -implicitDefEqProofs (disch := omega) [hb, c1, c2]
  by_cases c3 : b.toNat < 224
  · have : 192 ≤ bt s i ∧ bt s i < 224 := by omega
    have e := nx_multi (s := s) (i := i) (n := 2) (r0 := bt s i % 32) (by omega) (by omega)
    by_cases hm : i + 2 ≤ s.size
    · have hcl : ((s.data.toList.drop (i + 1)).take 1).length = 1 := by simp; omega
      have exb : bytesT (s.extract (i + 1) (i + 1 + 1)) = ub ((s.data.toList.drop (i + 1)).take 1) := by rw [ub_bytes, extract_bytes]
      have i1 : ((i : Int) + 1).toNat = i + 1 := by omega
      have i2 : ((i : Int) + 2).toNat = i + 1 + 1 := by omega
      simp only [show 2 - 1 = 1 from rfl, hm, true_and] at e
      have lemL := fun (st : St) (r : CR) (h : H) => l29 (st := st) (r := r) (h := h) ((s.data.toList.drop (i + 1)).take 1) (by omega) (bt s i % 32) (by omega) (a := .t (.str s)) (b := .t (.int .i64 i)) (c := .t (.int .i64 2))
      generalize ((s.data.toList.drop (i + 1)).take 1) = cs at hcl exb e lemL
      have hr0 : (((bt s i % 32 : Nat)) : Int) = (b.toNat : Int) % 32 := by omega
      rw [hr0] at lemL
      simp -implicitDefEqProofs (disch := omega) [hb, c1, c2, c3, and31, sl_str, i1, i2, exb, ub_len, hcl]
      generalize hLp : loopω _ _ = L
      obtain ⟨x, st', rfl, q1, q2, q3, q4, q5, q6⟩ := lemL _ _ _ hLp rfl rfl (by simp) (by simp) (by simp) (by simp) (by simp [hcl]) (by simp) (by simp)
      obtain ⟨nn, env, h2⟩ := st'
      simp only at q1 q2 q3 q4 q5 q6
      subst q1 q2
      by_cases hall : cs.all (fun c => contB c.toNat) = true
      · rw [if_pos hall] at q6
        obtain ⟨rfl, q6⟩ := q6
        have k := fun h => c39 (c := 29) (accR (bt s i % 32) cs) h rfl
        have hsz : (⟨(putL (accR (bt s i % 32) cs)).toArray⟩ : ByteArray).size = (putL (accR (bt s i % 32) cs)).length := by simp [ByteArray.size]
        by_cases hp : (putL (accR (bt s i % 32) cs)).length = 2
        · rw [if_pos ⟨hall, hp⟩] at e
          rw [e]
          simp -implicitDefEqProofs (disch := omega) [q3, q4, q5, q6, k, hsz, hp]
        · rw [if_neg (fun h => hp h.2)] at e
          rw [e]
          have hp' : eqI ((putL (accR (bt s i % 32) cs)).length : Int) 2 = false := eqI_false (by omega)
          simp -implicitDefEqProofs (disch := omega) [q3, q4, q5, q6, k, hsz, hp']
      · rw [if_neg hall] at q6
        obtain ⟨rfl, q6, q7⟩ := q6
        rw [if_neg (fun h => hall h.1)] at e
        rw [e]
        simp -implicitDefEqProofs (disch := omega) [q6, q7]
    · rw [if_neg (fun h => hm h.1)] at e
      rw [e]
      simp -implicitDefEqProofs (disch := omega) [hb, c1, c2, c3, and31]
  by_cases c4 : b.toNat < 240
  · have : 224 ≤ bt s i ∧ bt s i < 240 := by omega
    have e := nx_multi (s := s) (i := i) (n := 3) (r0 := bt s i % 16) (by omega) (by omega)
    by_cases hm : i + 3 ≤ s.size
    · have hcl : ((s.data.toList.drop (i + 1)).take 2).length = 2 := by simp; omega
      have exb : bytesT (s.extract (i + 1) (i + 1 + 2)) = ub ((s.data.toList.drop (i + 1)).take 2) := by rw [ub_bytes, extract_bytes]
      have i1 : ((i : Int) + 1).toNat = i + 1 := by omega
      have i2 : ((i : Int) + 3).toNat = i + 1 + 2 := by omega
      simp only [show 3 - 1 = 2 from rfl, hm, true_and] at e
      have lemL := fun (st : St) (r : CR) (h : H) => l29 (st := st) (r := r) (h := h) ((s.data.toList.drop (i + 1)).take 2) (by omega) (bt s i % 16) (by omega) (a := .t (.str s)) (b := .t (.int .i64 i)) (c := .t (.int .i64 3))
      generalize ((s.data.toList.drop (i + 1)).take 2) = cs at hcl exb e lemL
      have hr0 : (((bt s i % 16 : Nat)) : Int) = (b.toNat : Int) % 16 := by omega
      rw [hr0] at lemL
      simp -implicitDefEqProofs (disch := omega) [hb, c1, c2, c3, c4, and15, sl_str, i1, i2, exb, ub_len, hcl]
      generalize hLp : loopω _ _ = L
      obtain ⟨x, st', rfl, q1, q2, q3, q4, q5, q6⟩ := lemL _ _ _ hLp rfl rfl (by simp) (by simp) (by simp) (by simp) (by simp [hcl]) (by simp) (by simp)
      obtain ⟨nn, env, h2⟩ := st'
      simp only at q1 q2 q3 q4 q5 q6
      subst q1 q2
      by_cases hall : cs.all (fun c => contB c.toNat) = true
      · rw [if_pos hall] at q6
        obtain ⟨rfl, q6⟩ := q6
        have k := fun h => c39 (c := 29) (accR (bt s i % 16) cs) h rfl
        have hsz : (⟨(putL (accR (bt s i % 16) cs)).toArray⟩ : ByteArray).size = (putL (accR (bt s i % 16) cs)).length := by simp [ByteArray.size]
        by_cases hp : (putL (accR (bt s i % 16) cs)).length = 3
        · rw [if_pos ⟨hall, hp⟩] at e
          rw [e]
          simp -implicitDefEqProofs (disch := omega) [q3, q4, q5, q6, k, hsz, hp]
        · rw [if_neg (fun h => hp h.2)] at e
          rw [e]
          have hp' : eqI ((putL (accR (bt s i % 16) cs)).length : Int) 3 = false := eqI_false (by omega)
          simp -implicitDefEqProofs (disch := omega) [q3, q4, q5, q6, k, hsz, hp']
      · rw [if_neg hall] at q6
        obtain ⟨rfl, q6, q7⟩ := q6
        rw [if_neg (fun h => hall h.1)] at e
        rw [e]
        simp -implicitDefEqProofs (disch := omega) [q6, q7]
    · rw [if_neg (fun h => hm h.1)] at e
      rw [e]
      simp -implicitDefEqProofs (disch := omega) [hb, c1, c2, c3, c4, and15]
  by_cases c5 : b.toNat < 248
  · have : 240 ≤ bt s i ∧ bt s i < 248 := by omega
    have e := nx_multi (s := s) (i := i) (n := 4) (r0 := bt s i % 8) (by omega) (by omega)
    by_cases hm : i + 4 ≤ s.size
    · have hcl : ((s.data.toList.drop (i + 1)).take 3).length = 3 := by simp; omega
      have exb : bytesT (s.extract (i + 1) (i + 1 + 3)) = ub ((s.data.toList.drop (i + 1)).take 3) := by rw [ub_bytes, extract_bytes]
      have i1 : ((i : Int) + 1).toNat = i + 1 := by omega
      have i2 : ((i : Int) + 4).toNat = i + 1 + 3 := by omega
      simp only [show 4 - 1 = 3 from rfl, hm, true_and] at e
      have lemL := fun (st : St) (r : CR) (h : H) => l29 (st := st) (r := r) (h := h) ((s.data.toList.drop (i + 1)).take 3) (by omega) (bt s i % 8) (by omega) (a := .t (.str s)) (b := .t (.int .i64 i)) (c := .t (.int .i64 4))
      generalize ((s.data.toList.drop (i + 1)).take 3) = cs at hcl exb e lemL
      have hr0 : (((bt s i % 8 : Nat)) : Int) = (b.toNat : Int) % 8 := by omega
      rw [hr0] at lemL
      simp -implicitDefEqProofs (disch := omega) [hb, c1, c2, c3, c4, c5, and7, sl_str, i1, i2, exb, ub_len, hcl]
      generalize hLp : loopω _ _ = L
      obtain ⟨x, st', rfl, q1, q2, q3, q4, q5, q6⟩ := lemL _ _ _ hLp rfl rfl (by simp) (by simp) (by simp) (by simp) (by simp [hcl]) (by simp) (by simp)
      obtain ⟨nn, env, h2⟩ := st'
      simp only at q1 q2 q3 q4 q5 q6
      subst q1 q2
      by_cases hall : cs.all (fun c => contB c.toNat) = true
      · rw [if_pos hall] at q6
        obtain ⟨rfl, q6⟩ := q6
        have k := fun h => c39 (c := 29) (accR (bt s i % 8) cs) h rfl
        have hsz : (⟨(putL (accR (bt s i % 8) cs)).toArray⟩ : ByteArray).size = (putL (accR (bt s i % 8) cs)).length := by simp [ByteArray.size]
        by_cases hp : (putL (accR (bt s i % 8) cs)).length = 4
        · rw [if_pos ⟨hall, hp⟩] at e
          rw [e]
          simp -implicitDefEqProofs (disch := omega) [q3, q4, q5, q6, k, hsz, hp]
        · rw [if_neg (fun h => hp h.2)] at e
          rw [e]
          have hp' : eqI ((putL (accR (bt s i % 8) cs)).length : Int) 4 = false := eqI_false (by omega)
          simp -implicitDefEqProofs (disch := omega) [q3, q4, q5, q6, k, hsz, hp']
      · rw [if_neg hall] at q6
        obtain ⟨rfl, q6, q7⟩ := q6
        rw [if_neg (fun h => hall h.1)] at e
        rw [e]
        simp -implicitDefEqProofs (disch := omega) [q6, q7]
    · rw [if_neg (fun h => hm h.1)] at e
      rw [e]
      simp -implicitDefEqProofs (disch := omega) [hb, c1, c2, c3, c4, c5, and7]
  · have e : nx s i = (0, 0) := by unfold nx; rw [if_neg hi]; simp only [hbt]; rw [if_neg c1, if_neg c2, if_neg c3, if_neg c4, if_neg c5]
    rw [e]
    simp -implicitDefEqProofs (disch := omega) [hb, c1, c2, c3, c4, c5]
theorem c29 {c : FuncId} (s : ByteArray) (i : Nat) (h : H) (hs : s.size ≤ 1000000000) (hm : md c 29 = .pure) : callD (cx.at c) (call cx prim) 29 [.t (.str s), .t (.int .i64 i)] h = some (.tup [.t (.int .i32 (nx s i).1), .t (.int .i64 (nx s i).2)], h) := by
  obtain ⟨h', q⟩ := s29 s i hs
  exact pureT cb29 hm q (by simp [snapOut]) rfl
end Go.Proofs.YtlcbhhmnfmeoeaaDoor
