import Derived.Test.YtccajagfgdchlaaKp3
import Derived.Test.YtccajagfgdchlaaKp4
set_option linter.unusedSimpArgs false
set_option linter.unusedVariables false
namespace Go.Proofs.Ytccajagfgdchlaa.Kp
open Vai
set_option maxHeartbeats 0
/-- What a job looks like. -/
def JS (d : D) : Prop := (∃ j : Job, d = .t (jobN j)) ∨ ∃ (j : Job) (id n : Nat), d = jobR j id n
theorem JD.js {h : H} {d : D} (hd : JD h d) : JS d := by
  rcases hd with hd | ⟨j, id, es, h1, _⟩
  · exact .inl hd
  · exact .inr ⟨j, id, _, h1⟩
theorem JS.cells1 {d : D} (hd : JS d) : d.cells.length = 9 := by
  rcases hd with ⟨j, rfl⟩ | ⟨j, id, n, rfl⟩ <;> rfl
theorem js_load {h : H} {id : Nat} {d : D} (ho : h.objs id = some (.row 31 9 [d])) (hd : JS d) : loadD Try.prog h 31 (.ptr id 0 0 1) = some d := by
  rcases hd with ⟨j, rfl⟩ | ⟨j, i, n, rfl⟩ <;> simp [loadD, H.els, ho, partD]
theorem js_store {h : H} {id : Nat} {d old : D} (ho : h.objs id = some (.row 31 9 [old])) (hold : JS old) (hd : JS d) (hm : h.marks = []) : storeD Try.prog h 31 (.ptr id 0 0 1) d = some (h.set id (.row 31 9 [d])) := by
  rcases hd with ⟨j, rfl⟩ | ⟨j, i, n, rfl⟩ <;> rcases hold with ⟨j2, rfl⟩ | ⟨j2, i2, n2, rfl⟩ <;> simp [H.els, ho, hm, H.mays]
theorem store_var {h : H} {id m : Nat} {es : List T} (s : ByteArray) (ho : h.objs id = some (.row 58 4 (es.map .t))) (hes : ∀ e ∈ es, Var4 e) (hm : m < es.length) (hmk : h.marks = []) :
    ∃ e', Var4 e' ∧ storeD Try.prog h 9 (.ptr id m 0 es.length) (.t (.str s)) = some (h.set id (.row 58 4 ((es.set m e').map .t))) := by
  obtain ⟨a, k, n, t, he⟩ := hes es[m] (List.getElem_mem _)
  refine ⟨.agg [.str s, .int .i64 k, .int .i64 n, .str t], ⟨s, k, n, t, rfl⟩, ?_⟩
  simp [H.els, ho, hm, hmk, he, H.mays, List.map_set]
theorem JD.set {h : H} {id : Nat} {es es' : List T} {d : D} (ho : h.objs id = some (.row 58 4 (es.map .t))) (hl : es'.length = es.length) (hes : ∀ e ∈ es', Var4 e) (hd : JD h d) : JD (h.set id (.row 58 4 (es'.map .t))) d := by
  rcases hd with hd | ⟨j, i, xs, h1, h0, h2, h3b, h3⟩
  · exact .inl hd
  · refine .inr ?_
    by_cases e : i = id
    · subst e
      have hx : xs = es := by
        rw [ho] at h3
        simp only [Option.some.injEq, AObj.row.injEq, true_and] at h3
        exact (List.map_inj_right (f := D.t) (fun a b h => by cases h; rfl)).1 h3.symm
      refine ⟨j, i, es', by rw [h1, hx, hl], by rw [hl, ← hx]; exact h0, hes, h3b, by simp [H.set, upd]⟩
    · exact ⟨j, i, xs, h1, h0, h2, h3b, by simp [H.set, upd, e, h3]⟩
/-- What holds while the answers are written into. -/
structure Inv7 (h : H) (L : Nat) (j : Job) (ds : List D) : Prop where
  len : ds.length = 6
  row : h.objs L = some (.row 31 9 ds)
  box : h.objs 0 = some (.row 31 9 [.t j.t])
  jd : ∀ d ∈ ds, JD h d
  mks : h.marks = []
theorem Inv7.set {h : H} {L : Nat} {j : Job} {ds : List D} (hi : Inv7 h L j ds) {id : Nat} {es es' : List T} (ho : h.objs id = some (.row 58 4 (es.map .t))) (hl : es'.length = es.length) (hes : ∀ e ∈ es', Var4 e) : Inv7 (h.set id (.row 58 4 (es'.map .t))) L j ds := by
  have n1 : L ≠ id := fun e => by have := hi.row; rw [e, ho] at this; simp at this
  have n2 : 0 ≠ id := fun e => by have := hi.box; rw [e, ho] at this; simp at this
  exact ⟨hi.len, by simp [H.set, upd, n1, hi.row], by simp [H.set, upd, n2, hi.box], fun d hd => (hi.jd d hd).set ho hl hes, hi.mks⟩
/-- One answer's variables are written into. -/
theorem inner7 {L : Nat} {j : Job} {ds : List D} {k : Nat} (hk : k < 6) {d2 d5 : D} (st : St) (sn : st.n = 92) (hi' : Inv7 st.h L j ds) (e2 : st.env 2 = d2) (e5 : st.env 5 = d5) (e14 : st.env 14 = .row L 0 6 6) (e15 : st.env 15 = .t (.int .i64 k)) (e16 : st.env 16 = .t (.int .i64 0)) :
    ∃ st', loopω (LB cx prim 7 Try.f7 2) st = some (.exit 2, st') ∧ st'.n = 92 ∧ Inv7 st'.h L j ds ∧ st'.env 2 = d2 ∧ st'.env 5 = d5 ∧ st'.env 14 = .row L 0 6 6 ∧ st'.env 15 = .t (.int .i64 k) := by
  have hl := hi'.len
  have hk6 : k < ds.length := by omega
  obtain ⟨d, hd⟩ : ∃ d, ds[k] = d := ⟨_, rfl⟩
  rcases hi'.jd d (hd ▸ List.getElem_mem _) with ⟨jj, rfl⟩ | ⟨jj, id, es, rfl, hle, hes0, _, ho0⟩
  · obtain ⟨n, env, h⟩ := st
    simp only at sn hi' e2 e5 e14 e15 e16
    subst sn
    rw [loop_step, LB_run nd7 rfl]
    simp -implicitDefEqProofs (disch := omega) [e2, e5, e14, e15, e16, hi'.row, hd, hl, hk, hi']
  · obtain ⟨x', st', hLp, rfl, h⟩ := loop_up (f := LB cx prim 7 Try.f7 2) (st := st) es.length
      (fun m st => st.n = 92 ∧ (Inv7 st.h L j ds ∧ ∃ es' : List T, es'.length = es.length ∧ (∀ e ∈ es', Var4 e) ∧ st.h.objs id = some (.row 58 4 (es'.map .t))) ∧ st.env 2 = d2 ∧ st.env 5 = d5 ∧ st.env 14 = .row L 0 6 6 ∧ st.env 15 = .t (.int .i64 k) ∧ st.env 16 = .t (.int .i64 m))
      (fun x' st' => x' = .exit 2 ∧ st'.n = 92 ∧ Inv7 st'.h L j ds ∧ st'.env 2 = d2 ∧ st'.env 5 = d5 ∧ st'.env 14 = .row L 0 6 6 ∧ st'.env 15 = .t (.int .i64 k))
      ⟨sn, ⟨hi', es, rfl, hes0, ho0⟩, e2, e5, e14, e15, e16⟩ (by
      clear e2 e5 e14 e15 e16 ho0 hi'
      rintro m ⟨nn, env, h⟩ hm ⟨rfl, ⟨hi, es', hlen, hes, ho⟩, e2, e5, e14, e15, e16⟩
      simp only at hi ho e2 e5 e14 e15 e16
      rw [LB_run nd7 rfl]
      by_cases hm' : m < es.length
      · obtain ⟨e', he', hst⟩ := store_var (m := m) ⟨#[115, 112, 111, 105, 108, 116]⟩ ho hes (by omega) hi.mks
        rw [hlen] at hst
        have hi2 := hi.set (es' := es'.set m e') ho (by simp) (fun x hx => by
          rcases List.mem_or_eq_of_mem_set hx with h1 | rfl
          · exact hes x h1
          · exact he')
        rw [List.map_set] at hst hi2
        simp -implicitDefEqProofs (disch := omega) [-storeD, e2, e5, e14, e15, e16, hi.row, hd, hl, hk, hm', ho, hlen, hst, hi2]
        exact ⟨es'.set m e', by simp [hlen], fun x hx => by
          rcases List.mem_or_eq_of_mem_set hx with h1 | rfl
          · exact hes x h1
          · exact he', by rw [List.map_set]⟩
      · have hme : m = es.length := by omega
        simp -implicitDefEqProofs (disch := omega) [e2, e5, e14, e15, e16, hi.row, hd, hl, hk, hme, ho, hlen, hi])
    exact ⟨st', hLp, h⟩
/-- All answers' variables are written into. -/
theorem outer7 {L : Nat} {j : Job} {ds : List D} {d2 d5 : D} (st : St) (sn : st.n = 92) (hi' : Inv7 st.h L j ds) (e2 : st.env 2 = d2) (e5 : st.env 5 = d5) (e14 : st.env 14 = .row L 0 6 6) (e15 : st.env 15 = .t (.int .i64 0)) :
    ∃ st', loopω (LB cx prim 7 Try.f7 0) st = some (.exit 0, st') ∧ st'.n = 92 ∧ Inv7 st'.h L j ds ∧ st'.env 2 = d2 ∧ st'.env 5 = d5 := by
  obtain ⟨x', st', hLp, rfl, h⟩ := loop_up (f := LB cx prim 7 Try.f7 0) (st := st) 6
    (fun k st => st.n = 92 ∧ Inv7 st.h L j ds ∧ st.env 2 = d2 ∧ st.env 5 = d5 ∧ st.env 14 = .row L 0 6 6 ∧ st.env 15 = .t (.int .i64 k))
    (fun x' st' => x' = .exit 0 ∧ st'.n = 92 ∧ Inv7 st'.h L j ds ∧ st'.env 2 = d2 ∧ st'.env 5 = d5)
    ⟨sn, hi', e2, e5, e14, e15⟩ (by
    clear e2 e5 e14 e15 hi'
    rintro k ⟨nn, env, h⟩ hk ⟨rfl, hi, e2, e5, e14, e15⟩
    simp only at hi e2 e5 e14 e15
    rw [LB_run nd7 rfl]
    by_cases hk' : k < 6
    · simp -implicitDefEqProofs (disch := omega) [e2, e5, e14, e15, hi.row, hi.len, hk']
      generalize hL : loopω (LB cx prim 7 Try.f7 2) _ = R
      obtain ⟨⟨nn, env', h'⟩, hL2, rfl, hi3, f2, f5, f14, f15⟩ := loop_at hL (inner7 hk' _ rfl hi (by simp [e2]; rfl) (by simp [e5]; rfl) (by simp [e14]) (by simp [e15]) (by simp))
      subst hL2
      simp only at hi3 f2 f5 f14 f15
      simp -implicitDefEqProofs (disch := omega) [f2, f5, f14, f15, hi3, hk']
    · obtain rfl : k = 6 := by omega
      simp -implicitDefEqProofs (disch := omega) [e2, e5, e14, e15, hi.row, hi.len, hi])
  exact ⟨st', hLp, h⟩
theorem y24 : yes (callN cx prim 30 24 [] .empty) = true := by kernel_rfl
theorem c24 {c : FuncId} (h : H) (hm : md c 24 = .pure) : callD (cx.at c) (call cx prim) 24 [] h = some (.t (.bool true), h) := by
  obtain ⟨h', h1⟩ := yes_call y24
  exact pureT cb24 hm h1 rfl rfl
theorem js_build {h : H} {d1 d2 d3 d4 d5 d6 : D} (h1 : JS d1) (h2 : JS d2) (h3 : JS d3) (h4 : JS d4) (h5 : JS d5) (h6 : JS d6) : buildSliceD Try.prog h 54 6 [(0, d1), (1, d2), (2, d3), (3, d4), (4, d5), (5, d6)] = some (.row h.next 0 6 6, h.push (.row 31 9 [d1, d2, d3, d4, d5, d6])) := by
  simp [buildSliceD, setsD, h1.cells1, h2.cells1, h3.cells1, h4.cells1, h5.cells1, h6.cells1, List.replicate]
/-- What a call for a job answers. -/
def Ans (k : FuncId) (args : List D) : Prop := ∀ g : H, g.marks = [] → ∃ d c g', callD (cx.at 7) (call cx prim) k args g = some (.tup [d, .t (.int .i64 c)], g') ∧ JD g' d ∧ Fr g g'
def Ans1 (k : FuncId) (args : List D) : Prop := ∀ g : H, g.marks = [] → ∃ d g', callD (cx.at 7) (call cx prim) k args g = some (d, g') ∧ JD g' d ∧ Fr g g'
structure Six (j : Job) (now : Int) : Prop where
  a : Ans 22 [.t j.t, .t (.int .i64 now), .t (.int .i64 1)]
  b : Ans 30 [.t j.t, .t (.int .i64 now)]
  c : Ans 23 [.t j.t, .t (.int .i64 now), .t (.int .i64 2), .t (.int .i64 1)]
  d : Ans 31 [.t j.t, .t (.int .i64 now), .t (.int .i64 2)]
  e : Ans1 32 [.t j.t]
  f : Ans1 21 [.t (.int .i64 1), .t (.int .i64 1), .t (.str ⟨#[116]⟩), .t (.bool false), .t j.vars, .t (.int .i64 1), .t (.int .i64 0)]
theorem six (j : Job) (now : Int) {vs : List (ByteArray × Int × Int × ByteArray)} (hv : Slice j.vars (vs.map varT)) (hb : bulkOK vs) : Six j now := by
  rcases hv with ⟨hv, _⟩ | hv
  · refine ⟨fun g hg => ?_, fun g hg => ?_, fun g hg => ?_, fun g hg => ?_, fun g hg => ?_, fun g hg => ?_⟩
    · obtain ⟨d, c, g', q, r⟩ := k22n j now 1 hv g hg; exact ⟨d, c, g', keepT cb22 rfl q, r⟩
    · obtain ⟨d, c, g', q, r⟩ := k30n j now hv g hg; exact ⟨d, c, g', keepT cb30 rfl q, r⟩
    · obtain ⟨d, c, g', q, r⟩ := k23n j now 2 1 hv g hg; exact ⟨d, c, g', keepT cb23 rfl q, r⟩
    · obtain ⟨d, c, g', q, r⟩ := k31n j now 2 hv g hg; exact ⟨d, c, g', keepT cb31 rfl q, r⟩
    · obtain ⟨d, g', q, r⟩ := k32n j hv g hg; exact ⟨d, g', keepT cb32 rfl q, r⟩
    · obtain ⟨d, g', q, r⟩ := k21n 1 1 ⟨#[116]⟩ false 1 0 g hg; rw [hv]; exact ⟨d, g', keepT cb21 rfl q, r⟩
  · have hlen : (vs.map varT).length * 48 ≤ 140737488355328 := by rw [List.length_map]; have := hb.1; omega
    have hes : ∀ e ∈ vs.map varT, Var4 e := fun e he => by
      obtain ⟨v, _, rfl⟩ := List.mem_map.1 he
      exact ⟨_, _, _, _, rfl⟩
    refine ⟨fun g hg => ?_, fun g hg => ?_, fun g hg => ?_, fun g hg => ?_, fun g hg => ?_, fun g hg => ?_⟩
    · obtain ⟨d, c, g', q, r⟩ := k22r hlen hes j now 1 hv g hg; exact ⟨d, c, g', keepT cb22 rfl q, r⟩
    · obtain ⟨d, c, g', q, r⟩ := k30r hlen hes j now hv g hg; exact ⟨d, c, g', keepT cb30 rfl q, r⟩
    · obtain ⟨d, c, g', q, r⟩ := k23r hlen hes j now 2 1 hv g hg; exact ⟨d, c, g', keepT cb23 rfl q, r⟩
    · obtain ⟨d, c, g', q, r⟩ := k31r hlen hes j now 2 hv g hg; exact ⟨d, c, g', keepT cb31 rfl q, r⟩
    · obtain ⟨d, g', q, r⟩ := k32r hlen hes j hv g hg; exact ⟨d, g', keepT cb32 rfl q, r⟩
    · obtain ⟨d, g', q, r⟩ := k21r hlen hes 1 1 ⟨#[116]⟩ false 1 0 g hg; rw [hv]; exact ⟨d, g', keepT cb21 rfl q, r⟩
end Go.Proofs.Ytccajagfgdchlaa.Kp
