import Derived.Test.YtlcbhhmnfmeoeaaDoorDL8
set_option linter.unusedSimpArgs false
set_option linter.unusedVariables false
set_option linter.unusedSectionVars false
namespace Vai
open Go
def two12 : ByteArray := ⟨#[61, 61, 33, 61, 60, 61, 62, 61, 38, 38, 124, 124]⟩
def one12 : ByteArray := ⟨#[43, 45, 42, 47, 37, 40, 41, 63, 58, 33, 60, 62]⟩
theorem sign_two {s : ByteArray} {i k : Nat} (hk : k < 6) (h2 : i + 2 ≤ s.size) (h : eqS (s.extract i (i + 2)) (two12.extract (2 * k) (2 * k + 2)) = true) : signL s i = 2 := by
  have hk6 : k = 0 ∨ k = 1 ∨ k = 2 ∨ k = 3 ∨ k = 4 ∨ k = 5 := by omega
  simp only [eqS, decide_eq_true_eq] at h
  unfold signL
  refine if_pos ⟨h2, ?_⟩
  rcases hk6 with rfl | rfl | rfl | rfl | rfl | rfl
  · have := (cut_two h2 61 61).1 h; simp at this; simp [this]
  · have := (cut_two h2 33 61).1 h; simp at this; simp [this]
  · have := (cut_two h2 60 61).1 h; simp at this; simp [this]
  · have := (cut_two h2 62 61).1 h; simp at this; simp [this]
  · have := (cut_two h2 38 38).1 h; simp at this; simp [this]
  · have := (cut_two h2 124 124).1 h; simp at this; simp [this]
theorem sign_not2 {s : ByteArray} {i : Nat} (h : ∀ j, j < 6 → ¬ (i + 2 ≤ s.size ∧ eqS (s.extract i (i + 2)) (two12.extract (2 * j) (2 * j + 2)) = true)) : signL s i = if bt s i = 43 ∨ bt s i = 45 ∨ bt s i = 42 ∨ bt s i = 47 ∨ bt s i = 37 ∨ bt s i = 40 ∨ bt s i = 41 ∨ bt s i = 63 ∨ bt s i = 58 ∨ bt s i = 33 ∨ bt s i = 60 ∨ bt s i = 62 then 1 else 0 := by
  unfold signL
  rw [if_neg]
  rintro ⟨h2, h3⟩
  simp only [eqS, decide_eq_true_eq] at h
  rcases h3 with ⟨ha, hb⟩ | ⟨ha, hb⟩ | ⟨ha, hb⟩ | ⟨ha, hb⟩ | ⟨ha, hb⟩ | ⟨ha, hb⟩
  · exact h 0 (by omega) ⟨h2, (cut_two h2 61 61).2 ⟨ha, hb⟩⟩
  · exact h 1 (by omega) ⟨h2, (cut_two h2 33 61).2 ⟨ha, hb⟩⟩
  · exact h 2 (by omega) ⟨h2, (cut_two h2 60 61).2 ⟨ha, hb⟩⟩
  · exact h 3 (by omega) ⟨h2, (cut_two h2 62 61).2 ⟨ha, hb⟩⟩
  · exact h 4 (by omega) ⟨h2, (cut_two h2 38 38).2 ⟨ha, hb⟩⟩
  · exact h 5 (by omega) ⟨h2, (cut_two h2 124 124).2 ⟨ha, hb⟩⟩
def oneQ (s : ByteArray) (i : Nat) : Prop := bt s i = 43 ∨ bt s i = 45 ∨ bt s i = 42 ∨ bt s i = 47 ∨ bt s i = 37 ∨ bt s i = 40 ∨ bt s i = 41 ∨ bt s i = 63 ∨ bt s i = 58 ∨ bt s i = 33 ∨ bt s i = 60 ∨ bt s i = 62
instance (s : ByteArray) (i : Nat) : Decidable (oneQ s i) := by unfold oneQ; infer_instance
theorem one_yes {s : ByteArray} {i k : Nat} (hk : k < 12) (h : bt s i = bt one12 k) : oneQ s i := by
  have hk6 : k = 0 ∨ k = 1 ∨ k = 2 ∨ k = 3 ∨ k = 4 ∨ k = 5 ∨ k = 6 ∨ k = 7 ∨ k = 8 ∨ k = 9 ∨ k = 10 ∨ k = 11 := by omega
  unfold oneQ
  rcases hk6 with rfl | rfl | rfl | rfl | rfl | rfl | rfl | rfl | rfl | rfl | rfl | rfl <;> rw [h] <;> decide
theorem one_no {s : ByteArray} {i : Nat} (h : ∀ j, j < 12 → bt s i ≠ bt one12 j) : ¬ oneQ s i := by
  rintro (h1 | h1 | h1 | h1 | h1 | h1 | h1 | h1 | h1 | h1 | h1 | h1)
  · exact h 0 (by omega) h1
  · exact h 1 (by omega) h1
  · exact h 2 (by omega) h1
  · exact h 3 (by omega) h1
  · exact h 4 (by omega) h1
  · exact h 5 (by omega) h1
  · exact h 6 (by omega) h1
  · exact h 7 (by omega) h1
  · exact h 8 (by omega) h1
  · exact h 9 (by omega) h1
  · exact h 10 (by omega) h1
  · exact h 11 (by omega) h1
end Vai
namespace Go.Proofs.YtlcbhhmnfmeoeaaDoor
open Vai
set_option maxHeartbeats 0
theorem l26 {h : H} {s : ByteArray} {i : Nat} (hs : s.size ≤ 1000000) (hi : i < s.size) {st : St} {r : CR} (hLp : loopω (LB cx prim 26 Tryd.f26 0) st = r) (en : st.n = 38) (eh : st.h = h) (e0 : st.env 0 = .t (.str s)) (e1 : st.env 1 = .t (.int .i64 i)) (e5 : st.env 5 = .t (.int .i64 0)) :
    ∃ x st', r = some (x, st') ∧ st'.n = 38 ∧ st'.h = h ∧ st'.env 0 = .t (.str s) ∧ st'.env 1 = .t (.int .i64 i) ∧ ((x = .ret ∧ signL s i = 2 ∧ st'.env 4 = .t (.int .i64 2)) ∨ (x = .exit 0 ∧ signL s i = if oneQ s i then 1 else 0)) := by
  refine loop_uses hLp 6 (fun k st => st.n = 38 ∧ st.h = h ∧ st.env 0 = .t (.str s) ∧ st.env 1 = .t (.int .i64 i) ∧ ∃ j : Nat, k ≤ j ∧ j ≤ 6 ∧ st.env 5 = .t (.int .i64 (2 * j)) ∧ ∀ m, m < j → ¬ (i + 2 ≤ s.size ∧ eqS (s.extract i (i + 2)) (two12.extract (2 * m) (2 * m + 2)) = true)) _ ⟨en, eh, e0, e1, 0, by omega, by omega, by rw [e5]; rfl, fun m hm => by omega⟩ ?_
  rintro k ⟨nn, env, h2⟩ hk ⟨rfl, rfl, e0, e1, j, hkj, hj6, e5, hno⟩
  simp only at e0 e1 e5
  rw [LB_run nd26 rfl]
  by_cases hj : j < 6
  · have c1 : (2 * (j : Int)) < 12 := by omega
    by_cases h2 : i + 2 ≤ s.size
    · have c2 : (2 : Int) ≤ s.size - i := by omega
      have g2 := sl_str (s := s) (a := i) (b := (i : Int) + 2)
      have g3 : ((i : Int) + 2).toNat = i + 2 := by omega
      have g4 : (2 * (j : Int) + 2).toNat = 2 * j + 2 := by omega
      have g5 : (2 * (j : Int)).toNat = 2 * j := by omega
      have g6 : (two12.size : Int) = 12 := rfl
      have g7 := fun h => sl_str (s := two12) (a := 2 * (j : Int)) (b := 2 * (j : Int) + 2) h (by omega) (by omega) (by omega)
      rw [g4, g5] at g7
      have hb12 : (⟨#[61, 61, 33, 61, 60, 61, 62, 61, 38, 38, 124, 124]⟩ : ByteArray) = two12 := rfl
      cases hq : eqS (s.extract i (i + 2)) (two12.extract (2 * j) (2 * j + 2)) with
      | true =>
        have hs2 := sign_two hj h2 hq
        simp -implicitDefEqProofs (disch := omega) [e0, e1, e5, Wp_some, g2, g3, g7, hb12, hq]
        exact hs2
      | false =>
        simp -implicitDefEqProofs (disch := omega) [e0, e1, e5, Wp_some, g2, g3, g7, hb12, hq]
        exact ⟨by omega, j + 1, by omega, by omega, by omega, fun m hm => by
          by_cases e : m = j
          · subst e; rw [hq]; simp
          · simpa using hno m (by omega)⟩
    · have c2 : ¬ (2 : Int) ≤ s.size - i := by omega
      simp -implicitDefEqProofs (disch := omega) [e0, e1, e5, Wp_some]
      exact ⟨by omega, j + 1, by omega, by omega, by omega, fun m hm hh => by omega⟩
  · obtain rfl : j = 6 := by omega
    simp -implicitDefEqProofs (disch := omega) [e0, e1, e5, Wp_some]
    exact sign_not2 hno
theorem m26 {h : H} {s : ByteArray} {i : Nat} (hs : s.size ≤ 1000000) (hi : i < s.size) {st : St} {r : CR} (hLp : loopω (LB cx prim 26 Tryd.f26 2) st = r) (en : st.n = 38) (eh : st.h = h) (e0 : st.env 0 = .t (.str s)) (e1 : st.env 1 = .t (.int .i64 i)) (e6 : st.env 6 = .t (.int .i64 0)) :
    ∃ x st', r = some (x, st') ∧ st'.n = 38 ∧ st'.h = h ∧ ((x = .ret ∧ oneQ s i ∧ st'.env 4 = .t (.int .i64 1)) ∨ (x = .exit 2 ∧ ¬ oneQ s i)) := by
  obtain ⟨b, hb, hbt⟩ := bt_get (s := s) (i := i) hi
  refine loop_uses hLp 12 (fun k st => st.n = 38 ∧ st.h = h ∧ st.env 0 = .t (.str s) ∧ st.env 1 = .t (.int .i64 i) ∧ ∃ j : Nat, k ≤ j ∧ j ≤ 12 ∧ st.env 6 = .t (.int .i64 j) ∧ ∀ m, m < j → bt s i ≠ bt one12 m) _ ⟨en, eh, e0, e1, 0, by omega, by omega, by rw [e6]; rfl, fun m hm => by omega⟩ ?_
  rintro k ⟨nn, env, h2⟩ hk ⟨rfl, rfl, e0, e1, j, hkj, hj6, e6, hno⟩
  simp only at e0 e1 e6
  rw [LB_run nd26 rfl]
  have hb12 : (⟨#[43, 45, 42, 47, 37, 40, 41, 63, 58, 33, 60, 62]⟩ : ByteArray) = one12 := rfl
  by_cases hj : j < 12
  · obtain ⟨b2, hb2, hbt2⟩ := bt_get (s := one12) (i := j) hj
    by_cases he : b.toNat = b2.toNat
    · have hh := one_yes (s := s) (i := i) hj (by rw [hbt, hbt2, he])
      simp -implicitDefEqProofs (disch := omega) [e0, e1, e6, Wp_some, hb12, hb, hb2, he]
      exact hh
    · have he' : eqI (b.toNat : Int) b2.toNat = false := eqI_false (by omega)
      simp -implicitDefEqProofs (disch := omega) [e0, e1, e6, Wp_some, hb12, hb, hb2, he']
      exact ⟨by omega, j + 1, by omega, by omega, by omega, fun m hm => by
        by_cases e : m = j
        · subst e; omega
        · exact hno m (by omega)⟩
  · obtain rfl : j = 12 := by omega
    simp -implicitDefEqProofs (disch := omega) [e0, e1, e6, Wp_some]
    exact one_no hno
theorem s26 {s : ByteArray} {i : Nat} (hs : s.size ≤ 1000000) (hi : i < s.size) : ∃ h', call cx prim 26 [.t (.str s), .t (.int .i64 i)] .empty = some (.t (.int .i64 (signL s i)), h') := by
  rw [call_run rfl Tryd.func26 ok26 nd26 rfl (Nat.le_of_ble_eq_true rfl) rfl rfl]
  have lemL := fun (st : St) (r : CR) (h : H) => l26 (h := h) (s := s) (i := i) (st := st) (r := r) hs hi
  have lemM := fun (st : St) (r : CR) (h : H) => m26 (h := h) (s := s) (i := i) (st := st) (r := r) hs hi
  simp -implicitDefEqProofs (disch := omega) []
  generalize hLp : loopω (LB cx prim 26 Tryd.f26 0) _ = R
  obtain ⟨x, ⟨nn, env, h2⟩, rfl, rfl, rfl, e0, e1, hx⟩ := lemL _ _ _ hLp rfl rfl (by simp) (by simp) (by simp)
  simp only at e0 e1
  rcases hx with ⟨rfl, hs2, e4⟩ | ⟨rfl, hs1⟩
  · simp only at e4
    simp -implicitDefEqProofs (disch := omega) [e4, hs2]
  · simp -implicitDefEqProofs (disch := omega) []
    generalize hLp2 : loopω (LB cx prim 26 Tryd.f26 2) _ = R
    obtain ⟨x, ⟨nn, env, h2⟩, rfl, rfl, rfl, hx⟩ := lemM _ _ _ hLp2 rfl rfl (by simp [e0]) (by simp [e1]) (by simp)
    rcases hx with ⟨rfl, hq, e4⟩ | ⟨rfl, hq⟩
    · simp only at e4
      rw [if_pos hq] at hs1
      simp -implicitDefEqProofs (disch := omega) [e4, hs1]
    · rw [if_neg hq] at hs1
      simp -implicitDefEqProofs (disch := omega) [hs1]
theorem c26 {c : FuncId} {s : ByteArray} {i : Nat} (h : H) (hs : s.size ≤ 1000000) (hi : i < s.size) (hm : md c 26 = .pure) : callD (cx.at c) (call cx prim) 26 [.t (.str s), .t (.int .i64 i)] h = some (.t (.int .i64 (signL s i)), h) := by
  obtain ⟨h', q⟩ := s26 hs hi
  exact pureT cb26 hm q rfl rfl
end Go.Proofs.YtlcbhhmnfmeoeaaDoor
