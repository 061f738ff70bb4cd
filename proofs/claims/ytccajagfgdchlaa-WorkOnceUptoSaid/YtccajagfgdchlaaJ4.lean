import Derived.Test.YtccajagfgdchlaaJ3
set_option linter.unusedSimpArgs false
set_option linter.unusedVariables false
namespace Go.Proofs.Ytccajagfgdchlaa
open Vai
set_option maxHeartbeats 0
theorem round6 {k : Nat} {tr bo : Int} {acts : List (Int × Int)} (hal : acts.length ≤ 4000000) (hk : k < acts.length) (hk3 : k < 300) (s : St) (hs : At6 k tr bo (.slice (acts.map actT)) s) :
    Wp (LB cx prim 6 Try.f6 0 s) fun e s' => e = .norm ∧ At6 (k + 1) tr bo (.slice (acts.map actT)) s' := by
  obtain ⟨nn, env, h⟩ := s
  obtain ⟨rfl, e0, e1, e2, e7, e11, hnx, hmk, st, lf, du, ti, now, had, fin, o0, e8, e9, e10, hinv⟩ := hs
  simp only at e0 e1 e2 e7 e11 hnx hmk o0 e8 e9 e10
  obtain ⟨⟨kd, n⟩, hf⟩ : ∃ f, acts[k]? = some f := ⟨acts[k], by simp [hk]⟩
  have p : Pre6 k tr bo acts env h st lf du ti now had fin kd n := ⟨e0, e1, e2, e7, e8, e9, e10, e11, hmk, hnx, o0, by simp [hf], hal, hk, hk3, hinv⟩
  by_cases k1 : kd = 1
  · subst k1; exact round_lock p
  by_cases k2 : kd = 2
  · subst k2; exact round_finish p
  by_cases k3 : kd = 3
  · subst k3; exact round_fail p
  by_cases k4 : kd = 4
  · subst k4; exact round_again p
  by_cases k5 : kd = 5
  · subst k5; exact round_drop p
  by_cases k6 : kd = 6
  · subst k6; exact round_clock p
  exact round_else p k1 k2 k3 k4 k5 k6
theorem loop6 {tr bo : Int} {x : T} {acts : List (Int × Int)} (hx : Slice x (acts.map actT)) (hal : acts.length ≤ 4000000) (s : St) (hs : At6 0 tr bo x s) :
    ∃ st', loopω (LB cx prim 6 Try.f6 0) s = some (.exit 0, st') ∧ st'.n = 166 := by
  have hlx := fun hh => hx.len (P := Try.prog) (t := 46) tk46 hh
  rw [List.length_map] at hlx
  obtain ⟨x', st', hLp, rfl, h⟩ := loop_up (f := LB cx prim 6 Try.f6 0) (st := s) (min acts.length 300)
    (fun k s => At6 k tr bo x s)
    (fun x' st => x' = .exit 0 ∧ st.n = 166) hs (by
    intro k s hk hs
    by_cases hk' : k < min acts.length 300
    · have hxe : x = .slice (acts.map actT) := hx.eq_of_ne (by intro e; have := congrArg List.length e; simp at this; subst this; simp at hk')
      subst hxe
      obtain ⟨e, s', h1, h2, h3⟩ := round6 hal (by omega) (by omega) s hs
      exact ⟨e, s', h1, .inl ⟨h2, by omega, h3⟩⟩
    · obtain ⟨nn, env, h⟩ := s
      obtain ⟨rfl, e0, e1, e2, e7, e11, hnx, hmk, st, lf, du, ti, now, had, fin, o0, e8, e9, e10, hinv⟩ := hs
      simp only at e0 e1 e2 e7 e11 hnx hmk o0 e8 e9 e10
      rw [LB_run nd6 rfl]
      by_cases hlt : k < acts.length
      · simp -implicitDefEqProofs (disch := omega) [e2, e11, hlx, hlt]
      · simp -implicitDefEqProofs (disch := omega) [e2, e11, hlx])
  exact ⟨st', hLp, h⟩
theorem law6 {tr bo : Int} {x : T} {acts : List (Int × Int)} (hx : Slice x (acts.map actT)) (hal : acts.length ≤ 4000000) : ∃ h', call cx prim 6 [.t (.int .i64 tr), .t (.int .i64 bo), .t x] .empty = some (.t (.bool true), h') := by
  rw [call_run rfl Try.func6 ok6 nd6 rfl (Nat.le_of_ble_eq_true rfl) rfl rfl]
  have hnew : newS 1 1 tName false .nilSlice tr 0 = jobQ 1 (trs tr) 0 0 := by
    simp [newS, clk]
  have q21 : ∀ h, callD (cx.at 6) (call cx prim) 21 [.t (.int .i64 1), .t (.int .i64 1), .t (.str tName), .t (.bool false), .t .nilSlice, .t (.int .i64 tr), .t (.int .i64 0)] h = some (.t (jobQ 1 (trs tr) 0 0).t, h) := fun h => by
    obtain ⟨h', q⟩ := s21 1 1 tName false isSl_nil tr 0
    rw [← hnew]
    exact pureT cb21 (by simp [md]) q rfl rfl
  have hb := trs_bd tr
  simp -implicitDefEqProofs (disch := omega) [q21]
  generalize hL : loopω (LB cx prim 6 Try.f6 0) _ = L
  obtain ⟨⟨nn, env, h⟩, hL2, rfl⟩ := loop_at hL (loop6 (tr := tr) (bo := bo) hx hal _ (by
    unfold At6
    simp
    exact ⟨1, trs tr, 0, 0, ⟨rfl, rfl, rfl, rfl⟩, by omega, by omega, fun h => by omega, fun h => by omega, by omega, fun _ => hb, by omega, by omega, by omega, by omega⟩))
  subst hL2
  simp -implicitDefEqProofs [c24 (c := 6) _ (by simp [md])]
end Go.Proofs.Ytccajagfgdchlaa
