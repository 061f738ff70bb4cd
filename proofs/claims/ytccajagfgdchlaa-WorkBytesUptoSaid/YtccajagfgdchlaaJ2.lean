import Derived.Test.YtccajagfgdchlaaJ1
set_option linter.unusedSimpArgs false
set_option linter.unusedVariables false
set_option linter.unusedSectionVars false
namespace Go.Proofs.Ytccajagfgdchlaa
open Vai
set_option maxHeartbeats 0
theorem isSl_nil : IsSl .nilSlice := ⟨[], .nil, by simp, by simp⟩
theorem y24 : yes (callN cx prim 30 24 [] .empty) = true := by kernel_rfl
theorem c24 {c : FuncId} (h : H) (hm : md c 24 = .pure) : callD (cx.at c) (call cx prim) 24 [] h = some (.t (.bool true), h) := by
  obtain ⟨h', h1⟩ := yes_call y24
  exact pureT cb24 hm h1 rfl rfl
abbrev tName : ByteArray := ⟨#[116]⟩
/-- The law's job. -/
abbrev jobQ (state left due till : Int) : Job := ⟨1, 1, tName, false, state, left, due, till, .nilSlice⟩
theorem clk_id {n : Int} (h : 0 ≤ n) (h2 : n ≤ 2199023255552) : clk n = n := by unfold clk; split <;> (try split) <;> omega
theorem spn_id {n : Int} (h : 0 ≤ n) (h2 : n ≤ 1099511627776) : spn n = n := by unfold spn; split <;> (try split) <;> omega
def gapS (n : Int) : Int := if 8589934592 < (if n < 0 then 0 else n) then 8589934592 else if n < 0 then 0 else n
theorem gapS_bd (n : Int) : 0 ≤ gapS n ∧ gapS n ≤ 8589934592 := by unfold gapS; split <;> (try split) <;> (try split) <;> omega
theorem lock_i {l now till : Int} (h0 : 0 ≤ now) (h1 : now ≤ 1099511627776) : lockS (jobQ 1 l now till) now 1 = (jobQ 2 l now (now + 1), 0) := by
  simp [lockS, sinceS, clk_id h0 (show now ≤ 2199023255552 by omega), spn_id (n := 1) (by omega) (by omega)]
theorem had_i {l d now : Int} (h0 : 0 ≤ now) (h1 : now ≤ 1099511627776) : hadS (jobQ 2 l d (now + 1)) now = true := by
  simp [hadS, clk_id h0 (show now ≤ 2199023255552 by omega)]
  omega
theorem left_i {l d t s : Int} (h : 1 ≤ l) (h2 : l ≤ 100) : leftS (jobQ s l d t) = l - 1 := by
  show (if l < 1 then (1 : Int) else if l < 100 then l else 100) - 1 = l - 1
  rw [if_neg (show ¬ l < 1 by omega)]
  split <;> omega
theorem fail_last {now d tr gap : Int} (h0 : 0 ≤ now) (h1 : now ≤ 1099511627776) : failS (jobQ 2 1 d (now + 1)) now tr gap = (jobQ 4 0 d 0, 0) := by
  simp only [failS, had_i h0 h1, if_true, left_i (l := 1) (by omega) (by omega)]
  rfl
theorem fail_i {n i now d tr gap : Int} (hn : n = trs tr) (hi : 1 ≤ i) (hin : i < n) (h0 : 0 ≤ now) (h1 : now ≤ 1099511627776) (hg : 0 ≤ gap) (hg2 : gap ≤ 8589934592) :
    failS (jobQ 2 (n - (i - 1)) d (now + 1)) now tr gap = (jobQ 1 (n - i) (now + gap * i) 0, 0) := by
  have hb := trs_bd tr
  have hl := left_i (l := n - (i - 1)) (d := d) (t := now + 1) (s := 2) (by omega) (by omega)
  have e : n - (i - 1) - 1 = n - i := by omega
  rw [e] at hl
  simp only [failS, had_i h0 h1, if_true, hl]
  rw [if_pos (show 0 < n - i by omega), ← hn, clk_id h0 (by omega), spn_id hg (by omega), show n - (n - i) = i by omega, if_neg (show ¬ i < 1 by omega)]
theorem lock_done {l d : Int} : lockS (jobQ 4 l d 0) 2199023255552 1 = (zeroJob, 232) := rfl
theorem lock_early {l due : Int} (h0 : 1 ≤ due) (h1 : due ≤ 2199023255552) : lockS (jobQ 1 l due 0) (due - 1) 1 = (zeroJob, 234) := by
  simp [lockS, sinceS, clk_id (n := due - 1) (by omega) (by omega), refusalS]
  omega

theorem loop4 {tr n gap : Int} (hn : trs tr = n) (hb : 1 ≤ n ∧ n ≤ 100) (hg : 0 ≤ gap ∧ gap ≤ 8589934592) : ∀ (env : Nat → D) (h : H), env 0 = .t (.int .i64 tr) → env 5 = .ptr 0 0 0 1 → env 6 = .t (.int .i64 n) → env 7 = .t (.int .i64 gap) → env 8 = .t (.int .i64 0) → env 9 = .t (.int .i64 1) → h.objs 0 = some (.row 31 9 [.t (jobQ 1 n 0 0).t]) → 0 < h.next → h.marks = [] →
      ∃ x st, loopω (LB cx prim 4 Try.f4 0) ⟨106, env, h⟩ = some (x, st) ∧ (x = .ret ∧ st.n = 106 ∧ st.env 4 = .t (.bool true)) := by
    intro env0 h0 a0 a5 a6 a7 a8 a9 aho ahnx ahmk
    refine loop_up (n - 1).toNat (fun k st => ∃ i now till : Int, i = k + 1 ∧ st.n = 106 ∧ st.env 0 = .t (.int .i64 tr) ∧ st.env 5 = .ptr 0 0 0 1 ∧ st.env 6 = .t (.int .i64 n) ∧ st.env 7 = .t (.int .i64 gap) ∧ st.env 8 = .t (.int .i64 now) ∧ st.env 9 = .t (.int .i64 i) ∧
      st.h.objs 0 = some (.row 31 9 [.t (jobQ 1 (n - (i - 1)) now till).t]) ∧ 0 < st.h.next ∧ st.h.marks = [] ∧ 0 ≤ now ∧ now ≤ 1099511627776) _ ⟨1, 0, 0, by simp, rfl, a0, a5, a6, a7, a8, a9, by simpa using aho, ahnx, ahmk, by omega, by omega⟩ ?_
    rintro k ⟨nn, env, h⟩ hk ⟨i, now, till, hik, rfl, e0, e5, e6, e7, e8, e9, ho, hnx, hmk, hnow, hnow2⟩
    simp only at e0 e5 e6 e7 e8 e9 ho hnx hmk
    rw [LB_run nd4 rfl]
    have hne : ¬ (0 = h.next) := by omega
    have hi1 : 1 ≤ i := by omega
    have hin : i ≤ n := by omega
    have q1 := fun hh => c22 (c := 4) (jobQ 1 (n - (i - 1)) now till) now 1 isSl_nil hh rfl
    rw [lock_i hnow hnow2] at q1
    have q2 := fun hh => c23 (c := 4) (jobQ 2 (n - (i - 1)) now (now + 1)) now tr gap isSl_nil hh rfl
    by_cases hlast : i = n
    · have q3 := fun hh => c22 (c := 4) (jobQ 4 0 now 0) 2199023255552 1 isSl_nil hh rfl
      rw [lock_done] at q3
      have e1 : n - (i - 1) = 1 := by omega
      rw [e1] at q2 q1 ho
      rw [fail_last hnow hnow2] at q2
      subst hlast
      simp -implicitDefEqProofs (disch := omega) [e0, e5, e6, e7, e8, e9, ho, hne, hmk, q1, q2, q3, c24 (c := 4) _ rfl, zeroJob]
    · rw [fail_i hn.symm hi1 (by omega) hnow hnow2 hg.1 hg.2] at q2
      have hp0 : 0 ≤ gap * i := Int.mul_nonneg (by omega) (by omega)
      have hp1 : gap * i ≤ 858993459200 := by
        have h3 := Int.mul_le_mul (a := gap) (b := i) (c := 8589934592) (d := 100) (by omega) (by omega) (by omega) (by omega)
        have h5 : (8589934592 : Int) * 100 = 858993459200 := by decide
        rw [h5] at h3
        exact h3
      have w0 : IntKind.i64.wrap (gap * i) = gap * i := wrap_i64 (by omega) (by omega)
      generalize hp : gap * i = p at q2 hp0 hp1 w0
      have e2 : n - (i + 1 - 1) = n - i := by omega
      have w2 : IntKind.i64.wrap (n - i) = n - i := wrap_i64 (by omega) (by omega)
      have w3 : ¬ (i = n) := hlast
      have w4 : IntKind.i64.wrap (now + p) = now + p := wrap_i64 (by omega) (by omega)
      have w5 : IntKind.i64.wrap (i + 1) = i + 1 := wrap_i64 (by omega) (by omega)
      have w6 : i ≤ n := hin
      by_cases hg0 : 0 < gap
      · have hp2 : 1 ≤ p := by
          have := Int.mul_le_mul (a := 1) (b := 1) (c := gap) (d := i) (by omega) (by omega) (by omega) (by omega)
          omega
        have q3 := fun hh => c22 (c := 4) (jobQ 1 (n - i) (now + p) 0) (now + p - 1) 1 isSl_nil hh rfl
        rw [lock_early (by omega) (by omega)] at q3
        have w7 : IntKind.i64.wrap (now + p - 1) = now + p - 1 := wrap_i64 (by omega) (by omega)
        by_cases hfar : 1099511627776 < now + p
        · simp -implicitDefEqProofs [e0, e5, e6, e7, e8, e9, ho, hne, hmk, q1, q2, q3, zeroJob, hp, w0, w2, w3, w4, w5, w6, w7, hg0, hfar]
        · simp -implicitDefEqProofs [e0, e5, e6, e7, e8, e9, ho, hne, hmk, q1, q2, q3, zeroJob, hp, w0, w2, w3, w4, w5, w6, w7, hg0, Int.not_lt.1 hfar]
          omega
      · have hz : gap = 0 := by omega
        subst hz
        have hp2 : p = 0 := by rw [← hp]; simp
        subst hp2
        rw [Int.add_zero] at q2 w4
        simp -implicitDefEqProofs [e0, e5, e6, e7, e8, e9, ho, hne, hmk, q1, q2, w2, w3, w4, w5, w6, hnow2]
        omega
theorem fin4 {tr n gap : Int} (hn : trs tr = n) (hb : 1 ≤ n ∧ n ≤ 100) (hg : 0 ≤ gap ∧ gap ≤ 8589934592) : ∀ (env : Nat → D) (h : H) (l0 : env 0 = .t (.int .i64 tr) ∧ env 5 = .ptr 0 0 0 1 ∧ env 6 = .t (.int .i64 n) ∧ env 7 = .t (.int .i64 gap) ∧ env 8 = .t (.int .i64 0) ∧ env 9 = .t (.int .i64 1) ∧ h.objs 0 = some (.row 31 9 [.t (jobQ 1 n 0 0).t]) ∧ 0 < h.next ∧ h.marks = []) (K : St → CR),
      ∃ h', endC Try.prog [ResultVar.tmp 4] (thenC (blockC 0 (loopω (LB cx prim 4 Try.f4 0) ⟨106, env, h⟩)) K) = some (.t (.bool true), h') := by
    rintro env h ⟨l0, l5, l6, l7, l8, l9, lo, ln, lm⟩ K
    obtain ⟨x, ⟨nn, env2, h2⟩, hL, rfl, rfl, h4⟩ := loop4 hn hb hg env h l0 l5 l6 l7 l8 l9 lo ln lm
    simp only at h4
    simp -implicitDefEqProofs [hL, h4]
theorem law4 (tr bo : Int) : ∃ h', call cx prim 4 [.t (.int .i64 tr), .t (.int .i64 bo)] .empty = some (.t (.bool true), h') := by
  rw [call_run rfl Try.func4 ok4 nd4 rfl (Nat.le_of_ble_eq_true rfl) rfl rfl]
  have hnew : newS 1 1 tName false .nilSlice tr 0 = jobQ 1 (trs tr) 0 0 := by
    simp [newS, clk]
  have q21 : ∀ h, callD (cx.at 4) (call cx prim) 21 [.t (.int .i64 1), .t (.int .i64 1), .t (.str tName), .t (.bool false), .t .nilSlice, .t (.int .i64 tr), .t (.int .i64 0)] h = some (.t (jobQ 1 (trs tr) 0 0).t, h) := fun h => by
    obtain ⟨h', q⟩ := s21 1 1 tName false isSl_nil tr 0
    rw [← hnew]
    exact pureT cb21 rfl q rfl rfl
  have hb := trs_bd tr
  have hg := gapS_bd bo
  generalize hgap : gapS bo = gap at hg
  generalize hn : trs tr = n at hb q21
  rcases (show tr < 1 ∨ (1 ≤ tr ∧ tr ≤ 100) ∨ 100 < tr by omega) with t1 | t1 | t1 <;> rcases (show bo < 0 ∨ (0 ≤ bo ∧ bo ≤ 8589934592) ∨ 8589934592 < bo by omega) with t2 | t2 | t2
  all_goals
    simp -implicitDefEqProofs (disch := omega) [q21]
    refine fin4 hn hb hg _ _ ?_ _
    simp [t1, t2]
    clear hb hg
    have hn2 : n = if tr < 1 then 1 else if tr < 100 then tr else 100 := hn.symm
    have hg2 : gap = if 8589934592 < (if bo < 0 then 0 else bo) then 8589934592 else if bo < 0 then 0 else bo := hgap.symm
    refine ⟨?_, ?_⟩
    · rw [hn2]
      split <;> (try split) <;> omega
    · rw [hg2]
      split <;> (try split) <;> omega
end Go.Proofs.Ytccajagfgdchlaa
