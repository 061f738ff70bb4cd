import Derived.Test.YtccajagfgdchlaaJ2
set_option linter.unusedSimpArgs false
set_option linter.unusedVariables false
namespace Go.Proofs.Ytccajagfgdchlaa
open Vai
set_option maxHeartbeats 0
abbrev actT (kn : Int × Int) : T := .agg [.int .i64 kn.1, .int .i64 kn.2]
/-- What holds between two acts. -/
def Inv6 (k : Nat) (st lf du ti now had fin : Int) : Prop := 0 ≤ now ∧ now ≤ 49 * k ∧ (st = 2 → had = ti) ∧ (st ≠ 2 → had ≤ now) ∧ ((fin = 0 ∧ st ≠ 3) ∨ (fin = 1 ∧ st = 3)) ∧ (st = 1 ∨ st = 2 → 1 ≤ lf ∧ lf ≤ 100) ∧ (st = 1 ∨ st = 2 ∨ st = 3 ∨ st = 4 ∨ st = 5) ∧ 0 ≤ ti ∧ ti ≤ 4398046511104 ∧ k ≤ 300
abbrev zT : T := .agg [.int .i64 0, .int .i64 0, .str ⟨#[]⟩, .bool false, .int .i64 0, .int .i64 0, .int .i64 0, .int .i64 0, .nilSlice]
theorem y33 : yes (callN cx prim 30 33 [.t zT, .t zT] .empty) = true := by kernel_rfl
theorem c33 {c : FuncId} (h : H) : callD (cx.at c) (call cx prim) 33 [.t zT, .t zT] h = some (.t (.bool true), h) := by
  obtain ⟨h', h1⟩ := yes_call y33
  exact pureT cb33 (by simp [md]) h1 rfl rfl
theorem tmod_bd (n : Int) : -49 ≤ n.tmod 50 ∧ n.tmod 50 ≤ 49 := by
  have h1 := Int.tmod_lt_of_pos n (show (0 : Int) < 50 by omega)
  have h2 := Int.tmod_lt_of_pos (-n) (show (0 : Int) < 50 by omega)
  rw [Int.neg_tmod] at h2
  omega
theorem tmod_pos {n : Int} (h : 0 < n) : 0 ≤ n.tmod 50 := Int.tmod_nonneg _ (by omega)
/-- The loop's state. -/
def At6 (k : Nat) (tr bo : Int) (x : T) (s : St) : Prop := s.n = 166 ∧ s.env 0 = .t (.int .i64 tr) ∧ s.env 1 = .t (.int .i64 bo) ∧ s.env 2 = .t x ∧ s.env 7 = .ptr 0 0 0 1 ∧ s.env 11 = .t (.int .i64 k) ∧ 0 < s.h.next ∧ s.h.marks = [] ∧
  ∃ st lf du ti now had fin, s.h.objs 0 = some (.row 31 9 [.t (jobQ st lf du ti).t]) ∧ s.env 8 = .t (.int .i64 now) ∧ s.env 9 = .t (.int .i64 had) ∧ s.env 10 = .t (.int .i64 fin) ∧ Inv6 k st lf du ti now had fin
theorem Inv6.next {k : Nat} {st lf du ti now had fin : Int} (h : Inv6 k st lf du ti now had fin) (hk : k < 300) : Inv6 (k + 1) st lf du ti now had fin := by
  obtain ⟨i1, i2, i3, i4, i5, i6, i7, i8, i9, i10⟩ := h
  exact ⟨i1, by omega, i3, i4, i5, i6, i7, i8, i9, by omega⟩
theorem Inv6.fin_ {k : Nat} {st lf du ti now had fin : Int} (h : Inv6 k st lf du ti now had fin) : ¬ (1 < fin) ∧ eqI fin 1 = eqI st 3 := by
  have := h.2.2.2.2.1
  refine ⟨by omega, ?_⟩
  unfold eqI
  rcases this with ⟨rfl, h3⟩ | ⟨rfl, rfl⟩
  · simp [h3]
  · rfl
/-- What a refusal is. -/
theorem refusal_ne (j : Job) : refusalS j = 232 ∨ refusalS j = 233 ∨ refusalS j = 234 := by
  unfold refusalS
  split
  · simp
  · split
    · simp
    · split <;> simp
section
variable {k : Nat} {tr bo : Int} {acts : List (Int × Int)} {env : Nat → D} {h : H} {st lf du ti now had fin n : Int}
/-- The round, where the act is known. -/
def Goal6 (k : Nat) (tr bo : Int) (acts : List (Int × Int)) (env : Nat → D) (h : H) : Prop := Wp (LB cx prim 6 Try.f6 0 ⟨166, env, h⟩) fun e s' => e = .norm ∧ At6 (k + 1) tr bo (.slice (acts.map actT)) s'
structure Pre6 (k : Nat) (tr bo : Int) (acts : List (Int × Int)) (env : Nat → D) (h : H) (st lf du ti now had fin kd n : Int) : Prop where
  e0 : env 0 = .t (.int .i64 tr)
  e1 : env 1 = .t (.int .i64 bo)
  e2 : env 2 = .t (.slice (acts.map actT))
  e7 : env 7 = .ptr 0 0 0 1
  e8 : env 8 = .t (.int .i64 now)
  e9 : env 9 = .t (.int .i64 had)
  e10 : env 10 = .t (.int .i64 fin)
  e11 : env 11 = .t (.int .i64 k)
  hmk : h.marks = []
  hnx : 0 < h.next
  o0 : h.objs 0 = some (.row 31 9 [.t (jobQ st lf du ti).t])
  hget : (acts.map actT)[k]? = some (actT (kd, n))
  hal : acts.length ≤ 4000000
  hk : k < acts.length
  hk3 : k < 300
  inv : Inv6 k st lf du ti now had fin
theorem clkI (hi : Inv6 k st lf du ti now had fin) : clk now = now := clk_id hi.1 (by have := hi.2.1; have := hi.2.2.2.2.2.2.2.2.2; omega)

theorem round_lock (p : Pre6 k tr bo acts env h st lf du ti now had fin 1 n) : Goal6 k tr bo acts env h := by
  obtain ⟨e0, e1, e2, e7, e8, e9, e10, e11, hmk, hnx, o0, hget, hal, hk, hk3, hinv⟩ := p
  have hck := clkI hinv
  have hne : ¬ (0 = h.next) := by omega
  have tb := tmod_bd n
  have q := fun hh => c22 (c := 6) (jobQ st lf du ti) now (n.tmod 50) isSl_nil hh (by simp [md])
  have hsp : 0 ≤ spn (n.tmod 50) ∧ spn (n.tmod 50) ≤ 49 := by unfold spn; split <;> (try split) <;> omega
  unfold Goal6
  rw [LB_run nd6 rfl]
  by_cases hok : (st = 1 ∧ du ≤ now) ∨ (st = 2 ∧ ti ≤ now)
  · obtain ⟨i1, i2, i3, i4, i5, i6, i7, i8, i9, i10⟩ := hinv
    have hl : lockS (jobQ st lf du ti) now (n.tmod 50) = (jobQ 2 lf du (now + if spn (n.tmod 50) < 1 then 1 else spn (n.tmod 50)), 0) := by
      rcases hok with ⟨rfl, h1⟩ | ⟨rfl, h1⟩ <;> simp [lockS, sinceS, hck, Int.not_lt.2 h1]
    rw [hl] at q
    have hm : 1 ≤ (if spn (n.tmod 50) < 1 then 1 else spn (n.tmod 50)) ∧ (if spn (n.tmod 50) < 1 then 1 else spn (n.tmod 50)) ≤ 49 := by
      by_cases hh : spn (n.tmod 50) < 1
      · rw [if_pos hh]; omega
      · rw [if_neg hh]; omega
    generalize (if spn (n.tmod 50) < 1 then 1 else spn (n.tmod 50)) = m at q hm
    have hhad : had ≤ now := by rcases hok with ⟨rfl, h1⟩ | ⟨rfl, h1⟩ <;> omega
    have hfin : fin = 0 := by omega
    subst hfin
    have hnext : Inv6 (k + 1) 2 lf du (now + m) now (now + m) 0 := ⟨i1, by omega, fun _ => rfl, fun h => absurd rfl h, .inl ⟨rfl, by omega⟩, fun _ => i6 (by omega), by omega, by omega, by omega, by omega⟩
    clear i1 i2 i3 i4 i5 i6 i7 i8 i9 hok hl
    simp -implicitDefEqProofs (disch := omega) [e0, e1, e2, e7, e8, e9, e10, e11, o0, hne, hmk, hget, q, At6]
    exact ⟨_, _, _, _, ⟨rfl, rfl, rfl, rfl⟩, hnext⟩
  · have hl : lockS (jobQ st lf du ti) now (n.tmod 50) = (zeroJob, refusalS (jobQ st lf du ti)) := by
      unfold lockS
      refine if_pos ?_
      simp only [sinceS, hck]
      by_cases s1 : st = 1
      · subst s1; simp; omega
      · by_cases s2 : st = 2
        · subst s2; simp; omega
        · simp [s1, s2]
    rw [hl] at q
    have hr := refusal_ne (jobQ st lf du ti)
    generalize refusalS (jobQ st lf du ti) = r at q hr
    have hr0 : ¬ r = 0 := by omega
    have hnext := hinv.next hk3
    obtain ⟨hf2, hfe⟩ := hinv.fin_
    simp -implicitDefEqProofs (disch := omega) [e0, e1, e2, e7, e8, e9, e10, e11, o0, hne, hmk, hget, q, At6, hr0, c33, hf2, hfe]
    exact ⟨_, _, _, _, ⟨rfl, rfl, rfl, rfl⟩, hnext⟩
theorem round_finish (p : Pre6 k tr bo acts env h st lf du ti now had fin 2 n) : Goal6 k tr bo acts env h := by
  obtain ⟨e0, e1, e2, e7, e8, e9, e10, e11, hmk, hnx, o0, hget, hal, hk, hk3, hinv⟩ := p
  have hck := clkI hinv
  have hne : ¬ (0 = h.next) := by omega
  have q := fun hh => c30 (c := 6) (jobQ st lf du ti) now isSl_nil hh (by simp [md])
  unfold Goal6
  rw [LB_run nd6 rfl]
  by_cases hok : st = 2 ∧ now < ti
  · obtain ⟨i1, i2, i3, i4, i5, i6, i7, i8, i9, i10⟩ := hinv
    obtain ⟨rfl, hlt⟩ := hok
    have hl : finishS (jobQ 2 lf du ti) now = (jobQ 3 lf du ti, 0) := by simp [finishS, hadS, hck, hlt]
    rw [hl] at q
    have hfin : fin = 0 := by omega
    subst hfin
    have hh : had = ti := i3 rfl
    subst hh
    have hnext : Inv6 (k + 1) 3 lf du had now 0 1 := ⟨i1, by omega, fun h => by omega, fun _ => by omega, .inr ⟨rfl, rfl⟩, fun h => by omega, by omega, by omega, by omega, by omega⟩
    clear i1 i2 i3 i4 i5 i6 i7 i8 i9 hl
    simp -implicitDefEqProofs (disch := omega) [e0, e1, e2, e7, e8, e9, e10, e11, o0, hne, hmk, hget, q, At6]
    exact ⟨_, _, _, _, ⟨rfl, rfl, rfl, rfl⟩, hnext⟩
  · have hl : finishS (jobQ st lf du ti) now = (zeroJob, refusalS (jobQ st lf du ti)) := by
      unfold finishS
      refine if_neg ?_
      simp only [hadS, hck, decide_eq_true_eq]
      exact hok
    rw [hl] at q
    have hr := refusal_ne (jobQ st lf du ti)
    generalize refusalS (jobQ st lf du ti) = r at q hr
    have hr0 : ¬ r = 0 := by omega
    have hnext := hinv.next hk3
    obtain ⟨hf2, hfe⟩ := hinv.fin_
    have hhad : had ≤ now := by
      obtain ⟨i1, i2, i3, i4, i5, i6, i7, i8, i9, i10⟩ := hinv
      by_cases s2 : st = 2
      · have := i3 s2; omega
      · exact i4 s2
    simp -implicitDefEqProofs (disch := omega) [e0, e1, e2, e7, e8, e9, e10, e11, o0, hne, hmk, hget, q, At6, hr0, c33, hf2, hfe]
    exact ⟨_, _, _, _, ⟨rfl, rfl, rfl, rfl⟩, hnext⟩
theorem round_fail (p : Pre6 k tr bo acts env h st lf du ti now had fin 3 n) : Goal6 k tr bo acts env h := by
  obtain ⟨e0, e1, e2, e7, e8, e9, e10, e11, hmk, hnx, o0, hget, hal, hk, hk3, hinv⟩ := p
  have hck := clkI hinv
  have hne : ¬ (0 = h.next) := by omega
  have q := fun hh => c23 (c := 6) (jobQ st lf du ti) now tr bo isSl_nil hh (by simp [md])
  unfold Goal6
  rw [LB_run nd6 rfl]
  by_cases hok : st = 2 ∧ now < ti
  · obtain ⟨i1, i2, i3, i4, i5, i6, i7, i8, i9, i10⟩ := hinv
    obtain ⟨rfl, hlt⟩ := hok
    have hlf := i6 (.inr rfl)
    have hls := left_i (l := lf) (d := du) (t := ti) (s := 2) hlf.1 hlf.2
    have hhd : hadS (jobQ 2 lf du ti) now = true := by simp [hadS, hck, hlt]
    have hfin : fin = 0 := by omega
    subst hfin
    have hh : had = ti := i3 rfl
    subst hh
    by_cases hlast : lf = 1
    · subst hlast
      have hl : failS (jobQ 2 1 du had) now tr bo = (jobQ 4 0 du 0, 0) := by
        simp only [failS, hhd, if_true, hls]
        rfl
      rw [hl] at q
      have hnext : Inv6 (k + 1) 4 0 du 0 now 0 0 := ⟨i1, by omega, fun h => by omega, fun _ => by omega, .inl ⟨rfl, by omega⟩, fun h => by omega, by omega, by omega, by omega, by omega⟩
      clear i1 i2 i3 i4 i5 i6 i7 i8 i9 hl hhd hls
      simp -implicitDefEqProofs (disch := omega) [e0, e1, e2, e7, e8, e9, e10, e11, o0, hne, hmk, hget, q, At6]
      exact ⟨_, _, _, _, ⟨rfl, rfl, rfl, rfl⟩, hnext⟩
    · have hb1 := spn_bd bo
      have hl : ∃ du', now ≤ du' ∧ failS (jobQ 2 lf du had) now tr bo = (jobQ 1 (lf - 1) du' 0, 0) := by
        refine ⟨clk now + spn bo * (if trs tr - (lf - 1) < 1 then 1 else trs tr - (lf - 1)), ?_, ?_⟩
        · have hm : 0 ≤ (if trs tr - (lf - 1) < 1 then 1 else trs tr - (lf - 1)) := by
            by_cases hh : trs tr - (lf - 1) < 1
            · rw [if_pos hh]; omega
            · rw [if_neg hh]; omega
          have := Int.mul_nonneg hb1.1 hm
          omega
        · simp only [failS, hhd, if_true, hls]
          rw [if_pos (show 0 < lf - 1 by omega)]
      obtain ⟨du', hdu, hl⟩ := hl
      rw [hl] at q
      have hnext : Inv6 (k + 1) 1 (lf - 1) du' 0 now 0 0 := ⟨i1, by omega, fun h => by omega, fun _ => by omega, .inl ⟨rfl, by omega⟩, fun h => by omega, by omega, by omega, by omega, by omega⟩
      clear i1 i2 i3 i4 i5 i6 i7 i8 i9 hl hhd hls
      simp -implicitDefEqProofs (disch := omega) [e0, e1, e2, e7, e8, e9, e10, e11, o0, hne, hmk, hget, q, At6]
      exact ⟨_, _, _, _, ⟨rfl, rfl, rfl, rfl⟩, hnext⟩
  · have hl : failS (jobQ st lf du ti) now tr bo = (zeroJob, refusalS (jobQ st lf du ti)) := by
      unfold failS
      refine if_neg ?_
      simp only [hadS, hck, decide_eq_true_eq]
      exact hok
    rw [hl] at q
    have hr := refusal_ne (jobQ st lf du ti)
    generalize refusalS (jobQ st lf du ti) = r at q hr
    have hr0 : ¬ r = 0 := by omega
    have hnext := hinv.next hk3
    obtain ⟨hf2, hfe⟩ := hinv.fin_
    have hhad : had ≤ now := by
      obtain ⟨i1, i2, i3, i4, i5, i6, i7, i8, i9, i10⟩ := hinv
      by_cases s2 : st = 2
      · have := i3 s2; omega
      · exact i4 s2
    simp -implicitDefEqProofs (disch := omega) [e0, e1, e2, e7, e8, e9, e10, e11, o0, hne, hmk, hget, q, At6, hr0, c33, hf2, hfe]
    exact ⟨_, _, _, _, ⟨rfl, rfl, rfl, rfl⟩, hnext⟩
theorem round_again (p : Pre6 k tr bo acts env h st lf du ti now had fin 4 n) : Goal6 k tr bo acts env h := by
  obtain ⟨e0, e1, e2, e7, e8, e9, e10, e11, hmk, hnx, o0, hget, hal, hk, hk3, hinv⟩ := p
  have hck := clkI hinv
  have hne : ¬ (0 = h.next) := by omega
  have q := fun hh => c31 (c := 6) (jobQ st lf du ti) now tr isSl_nil hh (by simp [md])
  have hb := trs_bd tr
  unfold Goal6
  rw [LB_run nd6 rfl]
  by_cases hok : st = 4
  · obtain ⟨i1, i2, i3, i4, i5, i6, i7, i8, i9, i10⟩ := hinv
    subst hok
    have hl : againS (jobQ 4 lf du ti) now tr = (jobQ 1 (trs tr) now ti, 0) := by simp [againS, hck]
    rw [hl] at q
    have hfin : fin = 0 := by omega
    subst hfin
    have hhad := i4 (by omega)
    have hnext : Inv6 (k + 1) 1 (trs tr) now ti now had 0 := ⟨i1, by omega, fun h => by omega, fun _ => by omega, .inl ⟨rfl, by omega⟩, fun h => by omega, by omega, by omega, by omega, by omega⟩
    clear i1 i2 i3 i4 i5 i6 i7 i8 i9 hl
    simp -implicitDefEqProofs (disch := omega) [e0, e1, e2, e7, e8, e9, e10, e11, o0, hne, hmk, hget, q, At6]
    exact ⟨_, _, _, _, ⟨rfl, rfl, rfl, rfl⟩, hnext⟩
  · have hl : ∃ r, ¬ r = 0 ∧ againS (jobQ st lf du ti) now tr = (zeroJob, r) := by
      unfold againS
      rw [if_neg hok]
      by_cases s3 : st = 3
      · exact ⟨233, by omega, by rw [if_pos s3]⟩
      · exact ⟨232, by omega, by rw [if_neg s3]⟩
    obtain ⟨r, hr0, hl⟩ := hl
    rw [hl] at q
    have hnext := hinv.next hk3
    obtain ⟨hf2, hfe⟩ := hinv.fin_
    simp -implicitDefEqProofs (disch := omega) [e0, e1, e2, e7, e8, e9, e10, e11, o0, hne, hmk, hget, q, At6, hr0, hok, c33, hf2, hfe]
    exact ⟨_, _, _, _, ⟨rfl, rfl, rfl, rfl⟩, hnext⟩
theorem round_drop (p : Pre6 k tr bo acts env h st lf du ti now had fin 5 n) : Goal6 k tr bo acts env h := by
  obtain ⟨e0, e1, e2, e7, e8, e9, e10, e11, hmk, hnx, o0, hget, hal, hk, hk3, hinv⟩ := p
  have hne : ¬ (0 = h.next) := by omega
  have q := fun hh => c32 (c := 6) (jobQ st lf du ti) isSl_nil hh (by simp [md])
  unfold Goal6
  rw [LB_run nd6 rfl]
  have hl : ∃ st', dropS (jobQ st lf du ti) = jobQ st' lf du ti ∧ Inv6 (k + 1) st' lf du ti now 0 fin := by
    obtain ⟨i1, i2, i3, i4, i5, i6, i7, i8, i9, i10⟩ := hinv
    unfold dropS
    by_cases hc : st = 1 ∨ st = 2 ∨ st = 4
    · rw [if_pos hc]
      exact ⟨5, rfl, i1, by omega, fun h => by omega, fun _ => by omega, by omega, fun h => by omega, by omega, by omega, by omega, by omega⟩
    · rw [if_neg hc]
      exact ⟨st, rfl, i1, by omega, fun h => by omega, fun _ => by omega, by omega, fun h => by omega, by omega, by omega, by omega, by omega⟩
  obtain ⟨st', hl, hnext⟩ := hl
  rw [hl] at q
  obtain ⟨hf2, hfe⟩ := hnext.fin_
  simp -implicitDefEqProofs (disch := omega) [e0, e1, e2, e7, e8, e9, e10, e11, o0, hne, hmk, hget, q, At6, hf2, hfe]
  exact ⟨_, _, _, _, ⟨rfl, rfl, rfl, rfl⟩, hnext⟩
theorem round_clock (p : Pre6 k tr bo acts env h st lf du ti now had fin 6 n) : Goal6 k tr bo acts env h := by
  obtain ⟨e0, e1, e2, e7, e8, e9, e10, e11, hmk, hnx, o0, hget, hal, hk, hk3, hinv⟩ := p
  have hne : ¬ (0 = h.next) := by omega
  have tb := tmod_bd n
  unfold Goal6
  rw [LB_run nd6 rfl]
  obtain ⟨hf2, hfe⟩ := hinv.fin_
  by_cases hn : 0 < n
  · have tp := tmod_pos hn
    have hnext : Inv6 (k + 1) st lf du ti (now + n.tmod 50) had fin := by
      obtain ⟨i1, i2, i3, i4, i5, i6, i7, i8, i9, i10⟩ := hinv
      exact ⟨by omega, by omega, i3, fun h => by have := i4 h; omega, i5, i6, i7, i8, i9, by omega⟩
    have hb : 0 ≤ now ∧ now ≤ 49 * k := ⟨hinv.1, hinv.2.1⟩
    simp -implicitDefEqProofs (disch := omega) [e0, e1, e2, e7, e8, e9, e10, e11, o0, hne, hmk, hget, At6, hf2, hfe, hn]
    exact ⟨_, _, _, _, ⟨rfl, rfl, rfl, rfl⟩, hnext⟩
  · have hnext := hinv.next hk3
    simp -implicitDefEqProofs (disch := omega) [e0, e1, e2, e7, e8, e9, e10, e11, o0, hne, hmk, hget, At6, hf2, hfe, hn]
    exact ⟨_, _, _, _, ⟨rfl, rfl, rfl, rfl⟩, hnext⟩
theorem round_else {kd : Int} (p : Pre6 k tr bo acts env h st lf du ti now had fin kd n) (h1 : ¬ kd = 1) (h2 : ¬ kd = 2) (h3 : ¬ kd = 3) (h4 : ¬ kd = 4) (h5 : ¬ kd = 5) (h6 : ¬ kd = 6) : Goal6 k tr bo acts env h := by
  obtain ⟨e0, e1, e2, e7, e8, e9, e10, e11, hmk, hnx, o0, hget, hal, hk, hk3, hinv⟩ := p
  have hne : ¬ (0 = h.next) := by omega
  unfold Goal6
  rw [LB_run nd6 rfl]
  obtain ⟨hf2, hfe⟩ := hinv.fin_
  have hnext := hinv.next hk3
  simp -implicitDefEqProofs (disch := omega) [e0, e1, e2, e7, e8, e9, e10, e11, o0, hne, hmk, hget, At6, hf2, hfe, h1, h2, h3, h4, h5, h6]
  exact ⟨_, _, _, _, ⟨rfl, rfl, rfl, rfl⟩, hnext⟩
end
end Go.Proofs.Ytccajagfgdchlaa
