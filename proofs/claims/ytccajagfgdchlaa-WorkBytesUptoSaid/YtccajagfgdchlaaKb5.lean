import Derived.Test.YtccajagfgdchlaaKb4
set_option linter.unusedSimpArgs false
set_option linter.unusedVariables false
set_option linter.unusedSectionVars false
namespace Go.Proofs.Ytccajagfgdchlaa
open Vai
set_option maxHeartbeats 0
/-- A job in memory whose variables are a slice of its own. -/
def jobA (x : Hd) (d : D) : AObj := .row 31 9 [mkAgg [.t (.int .i64 x.1), .t (.int .i64 x.2.1), .t (.str ⟨x.2.2.1.toArray⟩), .t (.bool x.2.2.2.1), .t (.int .i64 x.2.2.2.2.1), .t (.int .i64 x.2.2.2.2.2.1), .t (.int .i64 x.2.2.2.2.2.2.1), .t (.int .i64 x.2.2.2.2.2.2.2), d]]
def ptrO (t : TypeId) (n : Nat) : AObj := .row t 1 [.ptr n 0 0 1]
theorem s64 {b : T} {p : Nat} {bad : Bool} {h : H} {l : List UInt8} (ho : h.objs 1 = some (rdO 87 b p bad)) (h2 : h.objs 2 = some (ptrO 38 1)) (hb : Slice b (ub l)) (hl : l.length ≤ 4000000) (hp : p ≤ l.length) :
    call cx prim 64 [.ptr 2 0 0 1] h = some (.t (.int .i64 (intR l p bad).1), h.set 1 (rdO 87 b (intR l p bad).2.1 (intR l p bad).2.2)) := by
  rw [call_run rfl Try.func64 ok64 nd64 rfl (Nat.le_of_ble_eq_true rfl) rfl rfl]
  have q := c26 (c := 64) ho hb hl hp
  simp -implicitDefEqProofs (disch := omega) [h2, ptrO, q]
theorem c64 {b : T} {p : Nat} {bad : Bool} {h : H} {l : List UInt8} (ho : h.objs 1 = some (rdO 87 b p bad)) (h2 : h.objs 2 = some (ptrO 38 1)) (hb : Slice b (ub l)) (hl : l.length ≤ 4000000) (hp : p ≤ l.length) :
    callD (cx.at 45) (call cx prim) 64 [.ptr 2 0 0 1] h = some (.t (.int .i64 (intR l p bad).1), h.set 1 (rdO 87 b (intR l p bad).2.1 (intR l p bad).2.2)) := keepT cb64 (by simp [md]) (s64 ho h2 hb hl hp)
theorem mkAgg_partsJ (ds : List D) : (mkAgg ds).parts = some ds := by
  unfold mkAgg
  split
  · rename_i ts h
    simp only [D.parts]
    rw [toT_isT h]
  · rfl
section
variable {h : H} {x : Hd} {d : D} {J : Nat} (ho : h.objs J = some (jobA x d))
include ho
theorem jb_els : h.els J 1 = some (31, 9, [mkAgg [.t (.int .i64 x.1), .t (.int .i64 x.2.1), .t (.str ⟨x.2.2.1.toArray⟩), .t (.bool x.2.2.2.1), .t (.int .i64 x.2.2.2.2.1), .t (.int .i64 x.2.2.2.2.2.1), .t (.int .i64 x.2.2.2.2.2.2.1), .t (.int .i64 x.2.2.2.2.2.2.2), d]]) := by simp [-mkAgg, H.els, ho, jobA]
theorem jb_f8 : fieldAddrD Try.prog h 31 (.ptr J 0 0 1) 8 = some (.ptr J 0 8 1) := by simp [-H.els, fieldAddrD, jb_els ho]
theorem jb_l8 (hd : d.cells = [d]) : loadD Try.prog h 29 (.ptr J 0 8 1) = some d := by simp [-mkAgg, -H.els, loadD, jb_els ho, wholeArr, partD, mkAgg_cells, hd]
theorem jb_s8 {d' : D} (hd : d.cells = [d]) (hd' : d'.cells = [d']) (hm : h.may J d' = true) : storeD Try.prog h 29 (.ptr J 0 8 1) d' = some (h.set J (jobA x d')) := by
  have hm' : h.mays J [d'] = true := by simp only [H.mays, List.all_cons, hm, List.all_nil, Bool.and_self]
  simp [-mkAgg, -H.els, -H.mays, -H.may, storeD, jb_els ho, hd, hd', hm', okCells, wholeArr, mkAgg_cells, mkAgg_partsJ, putCells, splice, jobA]
end
abbrev varO (vs : List VR4) : AObj := .row 58 4 ((vs.map varT).map .t)
/-- A job's variables, a slice of its own. -/
def VS (h : H) (d : D) (vs : List VR4) : Prop := (vs = [] ∧ d = .t .nilSlice) ∨ ∃ id, 4 ≤ id ∧ id < h.next ∧ d = .row id 0 vs.length vs.length ∧ h.objs id = some (varO vs)
theorem VS.cells {h : H} {d : D} {vs : List VR4} (hv : VS h d vs) : d.cells = [d] := by
  rcases hv with ⟨_, rfl⟩ | ⟨id, _, _, rfl, _⟩ <;> rfl
theorem var_add {h : H} {d : D} {vs : List VR4} (hv : VS h d vs) (hn : 4 ≤ h.next) (hm : h.marks = []) (hl : vs.length ≤ 1000000) (v : VR4) :
    ∃ d' h', appendD Try.prog (h.push (.row 58 4 [.t (varT v)])) 29 d (.row h.next 0 1 1) = some (d', h') ∧ VS h' d' (vs ++ [v]) ∧ h.next ≤ h'.next ∧ h'.marks = [] ∧ ∀ K, K < 4 → h'.objs K = h.objs K := by
  have hsrc : sourceD (h.push (.row 58 4 [.t (varT v)])) (.row h.next 0 1 1) = some [.t (varT v)] := by simp [sourceD, H.els]
  rcases hv with ⟨rfl, rfl⟩ | ⟨id, h0, h1, rfl, h3⟩
  · refine ⟨.row (h.next + 1) 0 1 1, (h.push (.row 58 4 [.t (varT v)])).push (varO [v]), ?_, .inr ⟨h.next + 1, by omega, by simp, rfl, by simp⟩, by simp; omega, hm, fun K hK => ?_⟩
    · unfold appendD
      rw [hsrc]
      simp [D.cells]
      rfl
    · simp [show ¬ K = h.next by omega, show ¬ K = h.next + 1 by omega]
  · have ho : (h.push (.row 58 4 [.t (varT v)])).objs id = some (varO vs) := by simp only [push_objs, upd_ne _ _ (show id ≠ h.next by omega)]; exact h3
    have he : (h.push (.row 58 4 [.t (varT v)])).els id vs.length = some (58, 4, (vs.map varT).map .t) := by simp [H.els, ho]
    have hmm : (h.push (.row 58 4 [.t (varT v)])).mays id [D.t (varT v)] = true := mays_trees _ id [varT v]
    refine ⟨.row id 0 (vs.length + 1) (vs.length + 1), (h.push (.row 58 4 [.t (varT v)])).set id (varO (vs ++ [v])), ?_, .inr ⟨id, h0, by simp; omega, by simp, by simp⟩, by simp, hm, fun K hK => ?_⟩
    · have e1 : vs.length + 1 < 140737488355328 := by omega
      have e2 : (vs.length + 1) * 48 ≤ 140737488355328 := by omega
      unfold appendD
      rw [hsrc]
      simp [-H.els, -H.mays, D.cells, he, hmm, e1, e2]
      simp only [varO, List.map_append, List.map_map, List.map_cons, List.map_nil]
    · simp [show ¬ K = h.next by omega, show ¬ K = id by omega]
def jobD (x : Hd) (d : D) : D := mkAgg [.t (.int .i64 x.1), .t (.int .i64 x.2.1), .t (.str ⟨x.2.2.1.toArray⟩), .t (.bool x.2.2.2.1), .t (.int .i64 x.2.2.2.2.1), .t (.int .i64 x.2.2.2.2.2.1), .t (.int .i64 x.2.2.2.2.2.2.1), .t (.int .i64 x.2.2.2.2.2.2.2), d]
theorem jb_ld {h : H} {x : Hd} {d : D} {J : Nat} (ho : h.objs J = some (jobA x d)) (hd : d.cells = [d]) : loadD Try.prog h 31 (.ptr J 0 0 1) = some (jobD x d) := by
  simp [-mkAgg, -H.els, loadD, jb_els ho, wholeArr, partD, mkAgg_cells, jobD]
theorem jb_st {h : H} {x : Hd} {d : D} {o : D} {cs : List D} {J : Nat} (ho : h.objs J = some (.row 31 9 [o])) (hop : o.parts = some cs) (hcs : cs.length = 9) (hoc : o.cells.length = 9) (hd : d.cells = [d]) (hm : h.marks = []) : storeD Try.prog h 31 (.ptr J 0 0 1) (jobD x d) = some (h.set J (jobA x d)) := by
  have he : h.els J 1 = some (31, 9, [o]) := by simp [H.els, ho]
  have hm' : h.mays J (jobD x d).cells = true := by simp [H.mays, H.may, hm]
  have hdrop : cs.drop 9 = [] := List.drop_of_length_le (by omega)
  simp only [jobD] at hm' ⊢
  rw [mkAgg_cells] at hm'
  simp [-mkAgg, -H.els, -H.mays, storeD, he, hm', mkAgg_cells, okCells, wholeArr, hoc, hd, putCells, hop, splice, hdrop, jobA]
abbrev clo : D := .func (.func 64) [] [.ptr 2 0 0 1]
theorem l45 {x : T} {l : List UInt8} (hx : Slice x (ub l)) (hl : l.length ≤ 2000000) {y : Hd} {c p0 : Nat} {f0 : Bool} (hp0 : p0 ≤ l.length) (hc : c ≤ 1000000) {st : St} {r : CR} (hLp : loopω (LB cx prim 45 Try.f45 0) st = r) (en : st.n = 52) (e2 : st.env 2 = .ptr 0 0 0 1) (e4 : st.env 4 = .ptr 2 0 0 1) (e5 : st.env 5 = clo) (e6 : st.env 6 = .ptr 3 0 0 1) (e28 : st.env 28 = .t (.int .i64 c)) (e29 : st.env 29 = .t (.int .i64 0))
    (h0 : st.h.objs 0 = some (.row 31 9 [.t zeroJob.t])) (h1 : st.h.objs 1 = some (rdO 87 x p0 f0)) (h2 : st.h.objs 2 = some (ptrO 38 1)) (h3 : st.h.objs 3 = some (jobA y (.t .nilSlice))) (hn : 4 ≤ st.h.next) (hm : st.h.marks = []) :
    ∃ x' st', r = some (x', st') ∧ x' = .exit 0 ∧ st'.n = 52 ∧ st'.env 2 = .ptr 0 0 0 1 ∧ st'.env 4 = .ptr 2 0 0 1 ∧ st'.env 6 = .ptr 3 0 0 1 ∧ st'.h.objs 0 = some (.row 31 9 [.t zeroJob.t]) ∧ st'.h.objs 1 = some (rdO 87 x (varsR l c p0 f0).2.1 (varsR l c p0 f0).2.2) ∧ st'.h.objs 2 = some (ptrO 38 1) ∧ st'.h.marks = [] ∧ ∃ d, st'.h.objs 3 = some (jobA y d) ∧ VS st'.h d (varsR l c p0 f0).1 := by
  refine loop_uses hLp c (fun k st => st.n = 52 ∧ st.env 2 = .ptr 0 0 0 1 ∧ st.env 4 = .ptr 2 0 0 1 ∧ st.env 5 = clo ∧ st.env 6 = .ptr 3 0 0 1 ∧ st.env 28 = .t (.int .i64 c) ∧ st.env 29 = .t (.int .i64 k) ∧ st.h.objs 0 = some (.row 31 9 [.t zeroJob.t]) ∧ st.h.objs 2 = some (ptrO 38 1) ∧ 4 ≤ st.h.next ∧ st.h.marks = [] ∧ ∃ (vs : List VR4) (p : Nat) (f : Bool) (d : D), vs.length = k ∧ p ≤ l.length ∧ varsR l c p0 f0 = (vs ++ (varsR l (c - k) p f).1, (varsR l (c - k) p f).2) ∧ st.h.objs 1 = some (rdO 87 x p f) ∧ st.h.objs 3 = some (jobA y d) ∧ VS st.h d vs) _ ⟨en, e2, e4, e5, e6, e28, e29, h0, h2, hn, hm, [], p0, f0, .t .nilSlice, rfl, hp0, by simp, h1, h3, .inl ⟨rfl, rfl⟩⟩ ?_
  rintro k ⟨nn, env, h⟩ hk ⟨rfl, e2, e4, e5, e6, e28, e29, h0, h2, hn, hm, vs, p, f, d, hvl, hp, hv, h1, h3, hd⟩
  simp only at e2 e4 e5 e6 e28 e29 h0 h1 h2 h3 hn hm hd
  rw [LB_run nd45 rfl]
  by_cases hk' : k < c
  · have hS2 : ∀ R, (h.set 1 R).objs 2 = some (ptrO 38 1) := fun R => by simp [h2]
    have hS3 : ∀ R, (h.set 1 R).objs 3 = some (jobA y d) := fun R => by simp [h3]
    have hP3 : ∀ R o, ((h.set 1 R).push o).objs 3 = some (jobA y d) := fun R o => by simp [h3, show ¬ 3 = h.next by omega]
    have q1 := c35 (c := 45) (h := h) (id := 1) (p := p) (bad := f) h1 hx (by omega) hp
    have b1 := textR_good.le l p f hp
    generalize g1 : textR l p f = r1 at q1 b1
    obtain ⟨v1, p1, f1⟩ := r1
    simp only at q1 b1
    have q2 := c64 (h := h.set 1 (rdO 87 x p1 f1)) (p := p1) (bad := f1) (by simp) (hS2 _) hx (by omega) b1
    have b2 := intR_good.le l p1 f1 b1
    generalize g2 : intR l p1 f1 = r2 at q2 b2
    obtain ⟨v2, p2, f2⟩ := r2
    simp only [set_set] at q2 b2
    have q3 := c26 (c := 45) (h := h.set 1 (rdO 87 x p2 f2)) (id := 1) (p := p2) (bad := f2) (by simp) hx (by omega) b2
    have b3 := intR_good.le l p2 f2 b2
    generalize g3 : intR l p2 f2 = r3 at q3 b3
    obtain ⟨v3, p3, f3⟩ := r3
    simp only [set_set] at q3 b3
    have q4 := c35 (c := 45) (h := h.set 1 (rdO 87 x p3 f3)) (id := 1) (p := p3) (bad := f3) (by simp) hx (by omega) b3
    have b4 := textR_good.le l p3 f3 b3
    generalize g4 : textR l p3 f3 = r4 at q4 b4
    obtain ⟨v4, p4, f4⟩ := r4
    simp only [set_set] at q4 b4
    have hvr : varR l p f = ((v1, v2, v3, v4), p4, f4) := by simp only [varR, seqR, g1, g2, g3, g4]
    have hck : c - k = (c - (k + 1)) + 1 := by omega
    have hv2 : varsR l c p0 f0 = ((vs ++ [toV (v1, v2, v3, v4)]) ++ (varsR l (c - (k + 1)) p4 f4).1, (varsR l (c - (k + 1)) p4 f4).2) := by
      rw [hv, hck]
      simp only [varsR, hvr]
      simp
    have hVS : VS (h.set 1 (rdO 87 x p4 f4)) d vs := by
      rcases hd with hd | ⟨id, i1, i2, i3, i4⟩
      · exact .inl hd
      · exact .inr ⟨id, i1, i2, i3, by simp only [set_objs, upd_ne _ _ (show id ≠ 1 by omega)]; exact i4⟩
    obtain ⟨d', h', qa, ra, rn, rm, ro⟩ := var_add hVS hn hm (by omega) (toV (v1, v2, v3, v4))
    have o3 : h'.objs 3 = some (jobA y d) := by rw [ro 3 (by omega)]; exact hS3 _
    have ld0 : loadD Try.prog h 38 (.ptr 2 0 0 1) = some (.ptr 1 0 0 1) := by simp [h2, ptrO]
    have ld1 : ∀ R, loadD Try.prog (h.set 1 R) 38 (.ptr 2 0 0 1) = some (.ptr 1 0 0 1) := fun R => by simp [h2, ptrO]
    have f8 := jb_f8 h3
    have f8s := fun R => jb_f8 (hS3 R)
    have f8p := fun R o => jb_f8 (hP3 R o)
    have f8q := jb_f8 o3
    have l8 := jb_l8 h3 hd.cells
    have l8s := fun R => jb_l8 (hS3 R) hd.cells
    have l8p := fun R o => jb_l8 (hP3 R o) hd.cells
    have s8 := jb_s8 o3 hd.cells ra.cells (by simp [rm])
    have hbq : d.beq d = true := by
      rcases hd with ⟨_, rfl⟩ | ⟨id, _, _, rfl, _⟩
      · simp
      · simp [D.beq]
    simp only [toV, varT, set_next] at qa
    have m35 : md 45 35 = .keep := by simp [md]
    have m26 : md 45 26 = .keep := by simp [md]
    have m64 : md 45 64 = .keep := by simp [md]
    have c1 : (k : Int) < c := by omega
    simp -implicitDefEqProofs (maxSteps := 3000000) (disch := omega) [-storeD, -load_ptr, -fieldAddrD, -H.els, e2, e4, e5, e6, e28, e29, q1, q2, q3, q4, ld0, ld1, f8, f8s, f8p, f8q, l8, l8s, l8p, s8, qa, buildSliceD, List.replicate, m35, m26, m64, Wp_some, hbq]
    have ra3 : VS (h'.set 3 (jobA y d')) d' (vs ++ [toV (v1, v2, v3, v4)]) := by
      rcases ra with ra | ⟨id, i1, i2, i3, i4⟩
      · exact .inl ra
      · exact .inr ⟨id, i1, i2, i3, by simp only [set_objs, upd_ne _ _ (show id ≠ 3 by omega)]; exact i4⟩
    have o0 : h'.objs 0 = some (.row 31 9 [.t zeroJob.t]) := by rw [ro 0 (by omega)]; simp [h0]
    have o2 : h'.objs 2 = some (ptrO 38 1) := by rw [ro 2 (by omega)]; exact hS2 _
    have o1 : h'.objs 1 = some (rdO 87 x p4 f4) := by rw [ro 1 (by omega)]; simp
    have rn' : 4 ≤ h'.next := Nat.le_trans hn rn
    refine ⟨hk', o0, o2, rn', rm, vs ++ [toV (v1, v2, v3, v4)], by simp [hvl], p4, b4, ?_⟩
    cases f4 with
    | false => exact .inl ⟨hv2, o1, d', rfl, ra3⟩
    | true => exact .inr ⟨hv2, o1, d', rfl, ra3⟩
  · obtain rfl : k = c := by omega
    have c1 : ¬ (k : Int) < k := by omega
    rw [Nat.sub_self] at hv
    simp only [varsR, List.append_nil] at hv
    simp -implicitDefEqProofs (disch := omega) [e2, e4, e5, e6, e28, e29, Wp_some]
    rw [hv]
    exact ⟨h0, h1, h2, hm, d, h3, hd⟩
end Go.Proofs.Ytccajagfgdchlaa
