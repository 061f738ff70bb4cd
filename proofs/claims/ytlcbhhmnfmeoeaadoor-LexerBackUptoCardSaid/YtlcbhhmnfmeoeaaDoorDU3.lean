import Derived.Test.YtlcbhhmnfmeoeaaDoorDU2
set_option linter.unusedSimpArgs false
set_option linter.unusedVariables false
set_option linter.unusedSectionVars false
namespace Go.Proofs.YtlcbhhmnfmeoeaaDoor
open Vai
set_option maxHeartbeats 0
/-! utf.Bad -/
theorem s17 (s : ByteArray) (hs : s.size ≤ 1000000000) : ∃ h', call cx prim 17 [.t (.str s)] .empty = some (.t (.int .i64 (bad s 0)), h') := by
  rw [call_run rfl Tryd.func17 ok17 nd17 rfl (Nat.le_of_ble_eq_true rfl) rfl rfl]
  simp -implicitDefEqProofs (disch := omega) []
  generalize hLp : loopω _ _ = L
  obtain ⟨x, ⟨nn, env, h2⟩, rfl, rfl, hx⟩ := loop_uses hLp s.size
    (fun k st => st.n = 22 ∧ ∃ i : Nat, k ≤ i ∧ i ≤ s.size ∧ st.env 0 = .t (.str s) ∧ st.env 3 = .t (.int .i64 i) ∧ bad s i = bad s 0)
    (fun x st => st.n = 22 ∧ ((x = .exit 0 ∧ bad s 0 = -1) ∨ (x = .ret ∧ st.env 2 = .t (.int .i64 (bad s 0)))))
    (by refine ⟨rfl, 0, ?_⟩; simp) (by
    rintro k ⟨nn, env, h2⟩ hk ⟨rfl, i, hki, his, e0, e3, hb⟩
    simp only at e0 e3
    rw [LB_run nd17 rfl]
    by_cases hi : i < s.size
    · have q := fun h => c29 (c := 17) s i h hs rfl
      have hle := nx_le hi
      rw [bad, if_neg (by omega)] at hb
      by_cases hn : (nx s i).2 = 0
      · rw [if_pos hn] at hb
        simp -implicitDefEqProofs (disch := omega) [e0, e3, q, hn, Wp_some]
        exact hb
      · rw [if_neg hn] at hb
        have hn' : eqI ((nx s i).2 : Int) 0 = false := eqI_false (by omega)
        simp -implicitDefEqProofs (disch := omega) [e0, e3, q, hn', Wp_some]
        exact ⟨by omega, i + (nx s i).2, by omega, by omega, by omega, hb⟩
    · rw [bad, if_pos (by omega)] at hb
      simp -implicitDefEqProofs (disch := omega) [e0, e3, Wp_some, ← hb])
  rcases hx with ⟨rfl, hb⟩ | ⟨rfl, hb⟩
  · simp -implicitDefEqProofs (disch := omega) [hb]
  · simp only at hb
    simp -implicitDefEqProofs (disch := omega) [hb]
theorem c17 {c : FuncId} (s : ByteArray) (h : H) (hs : s.size ≤ 1000000000) (hm : md c 17 = .pure) : callD (cx.at c) (call cx prim) 17 [.t (.str s)] h = some (.t (.int .i64 (bad s 0)), h) := by
  obtain ⟨h', q⟩ := s17 s hs
  exact pureT cb17 hm q rfl rfl
/-! pavaneref07.Next -/
theorem l37 {s : ByteArray} {i n : Nat} (hs : s.size ≤ 1000000000) (h1 : 1 ≤ n) (h4 : n ≤ 4) (hle : i + n ≤ s.size) {st : St} {r : CR} {h : H} (hLp : loopω (LB cx prim 37 Tryd.f37 2) st = r) (en : st.n = 69) (eh : st.h = h) (e0 : st.env 0 = .t (.str s)) (e1 : st.env 1 = .t (.int .i64 i)) (e6 : st.env 6 = .t (.int .i64 n)) (e7 : st.env 7 = .t (.int .i32 0)) (e8 : st.env 8 = .t (.int .i64 0)) :
    ∃ x st', r = some (x, st') ∧ x = .exit 2 ∧ st'.n = 69 ∧ st'.h = h ∧ st'.env 0 = .t (.str s) ∧ st'.env 1 = .t (.int .i64 i) ∧ st'.env 6 = .t (.int .i64 n) ∧ st'.env 7 = .t (.int .i32 (refR s i n n)) := by
  refine loop_uses hLp n (fun k st => st.n = 69 ∧ st.h = h ∧ st.env 0 = .t (.str s) ∧ st.env 1 = .t (.int .i64 i) ∧ st.env 6 = .t (.int .i64 n) ∧ st.env 8 = .t (.int .i64 k) ∧ st.env 7 = .t (.int .i32 (refR s i n k))) _ ⟨en, eh, e0, e1, e6, e8, e7⟩ ?_
  rintro k ⟨nn, env, h2⟩ hk ⟨rfl, rfl, e0, e1, e6, e8, e7⟩
  simp only at e0 e1 e6 e8 e7
  rw [LB_run nd37 rfl]
  by_cases hk' : k < n
  · obtain ⟨b, hb, hbt⟩ := bt_get (s := s) (i := i + k) (by omega)
    have hb8 := b.toNat_lt
    have g1 : ((i : Int) + k).toNat = i + k := by omega
    match k, hk' with
    | 0, _ =>
      simp only [Nat.add_zero] at hb hbt
      by_cases hn1 : n = 1
      · subst hn1
        simp -implicitDefEqProofs (disch := omega) [e0, e1, e6, e8, e7, hb, Wp_some, refR, hbt]
      · have n4 : n = 2 ∨ n = 3 ∨ n = 4 := by omega
        rcases n4 with rfl | rfl | rfl
        all_goals simp -implicitDefEqProofs (disch := omega) [e0, e1, e6, e8, e7, hb, Wp_some, refR, hbt]
        all_goals exact tmod_pos' (by omega)
    | k + 1, hk1 =>
      have hlt := refR_lt s i n h1 h4 (k + 1) (by omega)
      have hp : 256 * 64 ^ (k + 1 - 1) ≤ 256 * 64 ^ 2 := Nat.mul_le_mul_left _ (Nat.pow_le_pow_right (by omega) (by omega))
      have h64 : 256 * 64 ^ 2 = 1048576 := by decide
      have hlt2 : refR s i n (k + 1) < 1048576 := by omega
      have g2 : ((i : Int) + ((k : Int) + 1)).toNat = i + (k + 1) := by omega
      have g4 : 0 ≤ (i : Int) + ((k : Int) + 1) := by omega
      have g3 : (b.toNat : Int).tmod 64 = (b.toNat : Int) % 64 := tmod_pos' (by omega)
      simp -implicitDefEqProofs (disch := omega) [e0, e1, e6, e8, e7, g2, g3, g4, hb, Wp_some, refR, hbt]
      omega
  · obtain rfl : k = n := by omega
    simp -implicitDefEqProofs (disch := omega) [e0, e1, e6, e8, e7, Wp_some]
theorem s37 (s : ByteArray) (i : Nat) (hs : s.size ≤ 1000000000) : ∃ h', call cx prim 37 [.t (.str s), .t (.int .i64 i)] .empty = some (.tup [.t (.int .i32 (nx s i).1), .t (.int .i64 (nx s i).2)], h') := by
  rw [call_run rfl Tryd.func37 ok37 nd37 rfl (Nat.le_of_ble_eq_true rfl) rfl rfl]
  by_cases hi : s.size ≤ i
  · have e : nx s i = (0, 0) := by unfold nx; rw [if_pos hi]
    rw [e]
    simp -implicitDefEqProofs (disch := omega) []
  simp -implicitDefEqProofs (disch := omega) []
  generalize hLp : loopω _ _ = L
  obtain ⟨x, ⟨nn, env, h2⟩, rfl, rfl, hx⟩ := loop_uses hLp 4
    (fun k st => st.n = 69 ∧ k ≤ 4 ∧ st.env 0 = .t (.str s) ∧ st.env 1 = .t (.int .i64 i) ∧ st.env 6 = .t (.int .i64 (k + 1 : Nat)) ∧ ∀ n, 1 ≤ n → n ≤ k → (nx s i).2 ≠ n)
    (fun x st => st.n = 69 ∧ ((x = .exit 0 ∧ nx s i = (0, 0)) ∨ (x = .ret ∧ st.env 4 = .t (.int .i32 (nx s i).1) ∧ st.env 5 = .t (.int .i64 (nx s i).2))))
    (by refine ⟨rfl, by omega, by simp, by simp, by simp, fun n h1 h2 => by omega⟩) (by
    rintro k ⟨nn, env, h2⟩ hk ⟨rfl, hk4, e0, e1, e6, hno⟩
    simp only at e0 e1 e6
    rw [LB_run nd37 rfl]
    have none : (nx s i).2 = 0 → nx s i = (0, 0) := fun h => by
      unfold nx at h ⊢
      rw [if_neg hi] at h ⊢
      simp only at h ⊢
      repeat' split
      all_goals first | rfl | (exfalso; simp_all)
    by_cases hk' : k < 4 ∧ i + (k + 1) ≤ s.size
    · have f1 : ((k + 1 : Nat) : Int) ≤ 4 := by omega
      have f2 : ((k + 1 : Nat) : Int) ≤ s.size - i := by omega
      have ll := fun (st : St) (r : CR) (h : H) => l37 (s := s) (i := i) (n := k + 1) (st := st) (r := r) (h := h) hs (by omega) (by omega) hk'.2
      have hiff := nx_ref (s := s) (i := i) (n := k + 1) (by omega) (by omega) hk'.2
      have exb := extract_bytes s i (k + 1)
      have g2 : ((i : Int) + ((k : Int) + 1)).toNat = i + (k + 1) := by omega
      have kk := fun h => c44 (c := 37) (refR s i (k + 1) (k + 1)) h rfl
      have cb := fun h => conv_bytes (P := Tryd.prog) (h := h) tk40 tk9 tk5 (sl_slice (ub (putL (refR s i (k + 1) (k + 1)))))
      simp -implicitDefEqProofs (disch := omega) [e0, e1, e6]
      generalize hLp : loopω _ _ = L
      obtain ⟨x, ⟨nn, env, h3⟩, rfl, rfl, q1, q2, q3, q4, q5, q6⟩ := ll _ _ _ hLp rfl rfl (by simp [e0]) (by simp [e1]) (by simp [e6]) (by simp) (by simp)
      simp only at q1 q2 q3 q4 q5 q6
      subst q1 q2
      have g1 : ((i : Int)).toNat = i := by omega
      have g5 : i + (k + 1) ≤ s.size := hk'.2
      have exs := sl_str (s := s) (a := i) (b := (i : Int) + ((k : Int) + 1))
      by_cases hm : putL (refR s i (k + 1) (k + 1)) = (s.data.toList.drop i).take (k + 1)
      · have e := hiff.1 hm
        have hme : eqS ⟨(putL (refR s i (k + 1) (k + 1))).toArray⟩ (s.extract i (i + (k + 1))) = true := by
          apply decide_eq_true
          rw [hm, ← exb]
        have e1' : (nx s i).1 = (refR s i (k + 1) (k + 1) : Nat) := by rw [e]
        have e2' : (nx s i).2 = k + 1 := by rw [e]
        simp -implicitDefEqProofs (disch := omega) [q3, q4, q5, q6, kk, cb, exs, g2, hme, Wp_some, e1', e2']
      · have hme : eqS ⟨(putL (refR s i (k + 1) (k + 1))).toArray⟩ (s.extract i (i + (k + 1))) = false := by
          apply decide_eq_false
          intro h
          apply hm
          rw [← exb, ← h]
        have hne : (nx s i).2 ≠ k + 1 := fun h => by
          have hs2 := nx_some (s := s) (i := i) (by omega)
          rw [h] at hs2
          exact hm (hiff.2 hs2.2.2)
        simp -implicitDefEqProofs (disch := omega) [q3, q4, q5, q6, kk, cb, exs, g2, hme, Wp_some]
        refine ⟨by omega, by omega, fun n h1 h2 => ?_⟩
        by_cases h3 : n = k + 1
        · rw [h3]; exact hne
        · exact hno n h1 (by omega)
    · have h0 : (nx s i).2 = 0 := by
        by_cases h0 : (nx s i).2 = 0
        · exact h0
        · exfalso
          have hs2 := nx_some (s := s) (i := i) h0
          exact hno (nx s i).2 (by omega) (by omega) rfl
      have hz := none h0
      by_cases h5 : k + 1 ≤ 4
      · have h5' : ((k : Int) + 1) ≤ 4 := by omega
        have h6 : ¬ ((k : Int) + 1) ≤ s.size - i := by omega
        simp -implicitDefEqProofs (disch := omega) [e0, e1, e6, Wp_some, hz]
      · have h5' : ¬ ((k : Int) + 1) ≤ 4 := by omega
        simp -implicitDefEqProofs (disch := omega) [e0, e1, e6, Wp_some, hz])
  rcases hx with ⟨rfl, hb⟩ | ⟨rfl, hb, hb2⟩
  · simp -implicitDefEqProofs (disch := omega) [hb]
  · simp only at hb hb2
    simp -implicitDefEqProofs (disch := omega) [hb, hb2]
theorem c37 {c : FuncId} (s : ByteArray) (i : Nat) (h : H) (hs : s.size ≤ 1000000000) (hm : md c 37 = .pure) : callD (cx.at c) (call cx prim) 37 [.t (.str s), .t (.int .i64 i)] h = some (.tup [.t (.int .i32 (nx s i).1), .t (.int .i64 (nx s i).2)], h) := by
  obtain ⟨h', q⟩ := s37 s i hs
  exact pureT cb37 hm q (by simp [snapOut]) rfl
/-! pavaneref07.Bad -/
theorem s21 (s : ByteArray) (hs : s.size ≤ 1000000000) : ∃ h', call cx prim 21 [.t (.str s)] .empty = some (.t (.int .i64 (bad s 0)), h') := by
  rw [call_run rfl Tryd.func21 ok21 nd21 rfl (Nat.le_of_ble_eq_true rfl) rfl rfl]
  simp -implicitDefEqProofs (disch := omega) []
  generalize hLp : loopω _ _ = L
  obtain ⟨x, ⟨nn, env, h2⟩, rfl, rfl, hx⟩ := loop_uses hLp s.size
    (fun k st => st.n = 22 ∧ ∃ i : Nat, k ≤ i ∧ i ≤ s.size ∧ st.env 0 = .t (.str s) ∧ st.env 3 = .t (.int .i64 i) ∧ bad s i = bad s 0)
    (fun x st => st.n = 22 ∧ ((x = .exit 0 ∧ bad s 0 = -1) ∨ (x = .ret ∧ st.env 2 = .t (.int .i64 (bad s 0)))))
    (by refine ⟨rfl, 0, ?_⟩; simp) (by
    rintro k ⟨nn, env, h2⟩ hk ⟨rfl, i, hki, his, e0, e3, hb⟩
    simp only at e0 e3
    rw [LB_run nd21 rfl]
    by_cases hi : i < s.size
    · have q := fun h => c37 (c := 21) s i h hs rfl
      have hle := nx_le hi
      rw [bad, if_neg (by omega)] at hb
      by_cases hn : (nx s i).2 = 0
      · rw [if_pos hn] at hb
        simp -implicitDefEqProofs (disch := omega) [e0, e3, q, hn, Wp_some]
        exact hb
      · rw [if_neg hn] at hb
        have hn' : eqI ((nx s i).2 : Int) 0 = false := eqI_false (by omega)
        simp -implicitDefEqProofs (disch := omega) [e0, e3, q, hn', Wp_some]
        exact ⟨by omega, i + (nx s i).2, by omega, by omega, by omega, hb⟩
    · rw [bad, if_pos (by omega)] at hb
      simp -implicitDefEqProofs (disch := omega) [e0, e3, Wp_some, ← hb])
  rcases hx with ⟨rfl, hb⟩ | ⟨rfl, hb⟩
  · simp -implicitDefEqProofs (disch := omega) [hb]
  · simp only at hb
    simp -implicitDefEqProofs (disch := omega) [hb]
theorem c21 {c : FuncId} (s : ByteArray) (h : H) (hs : s.size ≤ 1000000000) (hm : md c 21 = .pure) : callD (cx.at c) (call cx prim) 21 [.t (.str s)] h = some (.t (.int .i64 (bad s 0)), h) := by
  obtain ⟨h', q⟩ := s21 s hs
  exact pureT cb21 hm q rfl rfl
end Go.Proofs.YtlcbhhmnfmeoeaaDoor
