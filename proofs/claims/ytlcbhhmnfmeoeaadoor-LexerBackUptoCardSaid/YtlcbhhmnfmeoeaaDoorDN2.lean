import Derived.Test.YtlcbhhmnfmeoeaaDoorU6
import Derived.Test.YtlcbhhmnfmeoeaaDoorDN1
set_option linter.unusedSimpArgs false
set_option linter.unusedVariables false
set_option linter.unusedSectionVars false
namespace Go.Proofs.YtlcbhhmnfmeoeaaDoor
open Vai
set_option maxHeartbeats 0
theorem s28 (s : ByteArray) (hs : s.size ≤ 1000000000) : ∃ h', call cx prim 28 [.t (.str s)] .empty = some (.t (.bool (chs s 0)), h') := by
  rw [call_run rfl Tryd.func28 ok28 nd28 rfl (Nat.le_of_ble_eq_true rfl) rfl rfl]
  simp -implicitDefEqProofs (disch := omega) []
  generalize hLp : loopω _ _ = L
  obtain ⟨x, ⟨nn, env, h2⟩, rfl, rfl, hx⟩ := loop_uses hLp s.size
    (fun k st => st.n = 26 ∧ ∃ i : Nat, k ≤ i ∧ i ≤ s.size ∧ st.env 0 = .t (.str s) ∧ st.env 3 = .t (.int .i64 i) ∧ chs s i = chs s 0)
    (fun x st => st.n = 26 ∧ ((x = .exit 0 ∧ chs s 0 = true) ∨ (x = .ret ∧ chs s 0 = false ∧ st.env 2 = .t (.bool false))))
    (by refine ⟨rfl, 0, ?_⟩; simp) (by
    rintro k ⟨nn, env, h2⟩ hk ⟨rfl, i, hki, his, e0, e3, hb⟩
    simp only at e0 e3
    rw [LB_run nd28 rfl]
    by_cases hi : i < s.size
    · have q := fun h => c37 (c := 28) s i h hs rfl
      have q38 := fun h => c38 (c := 28) (nx s i).1 h rfl
      have hle := nx_le hi
      have c1 : (i : Int) < s.size := by omega
      rw [chs_step hi] at hb
      by_cases hn : (nx s i).2 = 0
      · rw [if_pos (.inl hn)] at hb
        simp -implicitDefEqProofs (disch := omega) [e0, e3, q, hn, Wp_some]
        exact hb.symm
      · have hn' : eqI ((nx s i).2 : Int) 0 = false := eqI_false (by omega)
        cases hc : charB (nx s i).1 with
        | false =>
          rw [hc] at q38
          rw [if_pos (.inr hc)] at hb
          simp -implicitDefEqProofs (disch := omega) [e0, e3, q, q38, hn', Wp_some]
          exact hb.symm
        | true =>
          rw [hc] at q38
          rw [if_neg (by simp [hn, hc])] at hb
          simp -implicitDefEqProofs (disch := omega) [e0, e3, q, q38, hn', Wp_some]
          exact ⟨by omega, i + (nx s i).2, by omega, by omega, by omega, hb⟩
    · have c1 : ¬ (i : Int) < s.size := by omega
      rw [chs_over (by omega)] at hb
      simp -implicitDefEqProofs (disch := omega) [e0, e3, Wp_some, ← hb])
  rcases hx with ⟨rfl, hb⟩ | ⟨rfl, hb, e2⟩
  · simp -implicitDefEqProofs (disch := omega) [hb]
  · simp only at e2
    simp -implicitDefEqProofs (disch := omega) [hb, e2]
theorem c28 {c : FuncId} (s : ByteArray) (h : H) (hs : s.size ≤ 1000000000) (hm : md c 28 = .pure) : callD (cx.at c) (call cx prim) 28 [.t (.str s)] h = some (.t (.bool (chs s 0)), h) := by
  obtain ⟨h', q⟩ := s28 s hs
  exact pureT cb28 hm q rfl rfl
/-- May a text stand in a formula? -/
def mayS (s : ByteArray) : Bool := decide (s.size ≤ 64) && chs s 0
theorem s16 (s : ByteArray) (hs : s.size ≤ 1000000000) : ∃ h', call cx prim 16 [.t (.agg [.int .i64 3, .int .i64 0, .str s])] .empty = some (.t (.bool (mayS s)), h') := by
  rw [call_run rfl Tryd.func16 ok16 nd16 rfl (Nat.le_of_ble_eq_true rfl) rfl rfl]
  have q28 := fun h => c28 (c := 16) s h hs rfl
  unfold mayS
  by_cases h64 : s.size ≤ 64
  · have c1 : (s.size : Int) ≤ 64 := by omega
    simp -implicitDefEqProofs (disch := omega) [q28, h64]
  · have c1 : ¬ (s.size : Int) ≤ 64 := by omega
    simp -implicitDefEqProofs (disch := omega) [q28, h64]
theorem c16 {c : FuncId} (s : ByteArray) (h : H) (hs : s.size ≤ 1000000000) (hm : md c 16 = .pure) : callD (cx.at c) (call cx prim) 16 [.t (.agg [.int .i64 3, .int .i64 0, .str s])] h = some (.t (.bool (mayS s)), h) := by
  obtain ⟨h', q⟩ := s16 s hs
  exact pureT cb16 hm q rfl rfl
end Go.Proofs.YtlcbhhmnfmeoeaaDoor
