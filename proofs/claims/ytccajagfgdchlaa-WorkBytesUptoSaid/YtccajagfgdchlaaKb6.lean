import Derived.Test.YtccajagfgdchlaaKb5
set_option linter.unusedSimpArgs false
set_option linter.unusedVariables false
set_option linter.unusedSectionVars false
namespace Go.Proofs.Ytccajagfgdchlaa
open Vai
set_option maxHeartbeats 0
/-- The job that was read, as a tree. -/
def jobOf (y : Hd) (vt : T) : Job := ⟨y.1, y.2.1, ⟨y.2.2.1.toArray⟩, y.2.2.2.1, y.2.2.2.2.1, y.2.2.2.2.2.1, y.2.2.2.2.2.2.1, y.2.2.2.2.2.2.2, vt⟩
theorem VS.snap {h : H} {d : D} {vs : List VR4} (hv : VS h d vs) : ∃ x, Vai.snapF h 4 d = some x ∧ Slice x (vs.map varT) := by
  rcases hv with ⟨rfl, rfl⟩ | ⟨id, _, _, rfl, h3⟩
  · exact ⟨.nilSlice, rfl, Slice.nil⟩
  · refine ⟨.slice (vs.map varT), ?_, .mk⟩
    have he : h.els id vs.length = some (58, 4, (vs.map varT).map .t) := by simp [H.els, h3]
    rw [snapF_row, he]
    simp only [Nat.zero_add, List.length_map, Nat.le_refl, if_true, List.drop_zero]
    rw [List.take_of_length_le (by simp), snapF_map]
    rfl
theorem job_snap {h : H} {y : Hd} {d : D} {vs : List VR4} (hv : VS h d vs) : ∃ x, Vai.snap h (jobD y d) = some (jobOf y x).t ∧ Slice x (vs.map varT) := by
  obtain ⟨x, hx, hs⟩ := hv.snap
  rcases hv with ⟨rfl, rfl⟩ | ⟨id, _, _, rfl, h3⟩
  · exact ⟨.nilSlice, rfl, Slice.nil⟩
  · refine ⟨x, ?_, hs⟩
    have e : jobD y (.row id 0 vs.length vs.length) = .agg [.t (.int .i64 y.1), .t (.int .i64 y.2.1), .t (.str ⟨y.2.2.1.toArray⟩), .t (.bool y.2.2.2.1), .t (.int .i64 y.2.2.2.2.1), .t (.int .i64 y.2.2.2.2.2.1), .t (.int .i64 y.2.2.2.2.2.2.1), .t (.int .i64 y.2.2.2.2.2.2.2), .row id 0 vs.length vs.length] := rfl
    rw [e, snap_def, snapF_agg]
    simp only [allM, snapF_t, hx, Option.map_some]
    rfl
theorem ite_le {n : Nat} {c : Prop} [Decidable c] {a b : Int × Nat × Bool} (ha : a.2.1 ≤ n) (hb : b.2.1 ≤ n) : (if c then a else b).2.1 ≤ n := by split <;> assumption
theorem countR_le {l : List UInt8} {p : Nat} {b : Bool} {least : Int} (hp : p ≤ l.length) : (countR l p b least).2.1 ≤ l.length := by
  unfold countR
  exact ite_le (intR_good.le l p b hp) (intR_good.le l p b hp)
theorem s45 {x : T} {l : List UInt8} (hx : Slice x (ub l)) (hl : l.length ≤ 2000000) : ∃ d h', call cx prim 45 [.t x] .empty = some (d, h') ∧ (match decP l with
    | none => d = .tup [.t zeroJob.t, .t (.bool false)]
    | some (y, vs) => ∃ dv, d = .tup [jobD y dv, .t (.bool true)] ∧ VS h' dv vs) := by
  rw [call_run rfl Try.func45 ok45 nd45 rfl (Nat.le_of_ble_eq_true rfl) rfl rfl]
  have q25 := fun g => c25 (c := 45) (h := g) (d := .t x) (snap_t _ _) hx (by omega)
  obtain ⟨g, hg⟩ : ∃ g, g = ((H.empty.push (.row 31 9 [.t zeroJob.t])).push (rdO 87 x (0 : Nat) false)).push (ptrO 38 1) := ⟨_, rfl⟩
  have hst : storeD Try.prog (((H.empty.push (.row 31 9 [.t zeroJob.t])).push (rdO 87 x (0 : Nat) false)).push (.row 38 1 [.t .nilPtr])) 38 (.ptr 2 0 0 1) (.ptr 1 0 0 1) = some g := by
    rw [hg]
    simp [storeD, H.els, ptrO, D.parts]
    exact push_set
  have go0 : g.objs 0 = some (.row 31 9 [.t zeroJob.t]) := by rw [hg]; simp
  have go1 : g.objs 1 = some (rdO 87 x (0 : Nat) false) := by rw [hg]; simp
  have go2 : g.objs 2 = some (ptrO 38 1) := by rw [hg]; simp
  have gn : g.next = 3 := by rw [hg]; simp
  have gm : g.marks = [] := by rw [hg]; rfl
  clear hg
  have S2 : ∀ R, (g.set 1 R).objs 2 = some (ptrO 38 1) := fun R => by simp [go2]
  have q1 := c64 (h := g) go1 go2 hx (by omega) (Nat.zero_le _)
  have b1 := intR_good.le l 0 false (Nat.zero_le _)
  generalize h1 : intR l 0 false = r1 at q1 b1
  obtain ⟨v1, p1, f1⟩ := r1
  simp only at q1 b1
  have q2 := c64 (h := g.set 1 (rdO 87 x p1 f1)) (p := p1) (bad := f1) (by simp) (S2 _) hx (by omega) b1
  have b2 := intR_good.le l p1 f1 b1
  generalize h2 : intR l p1 f1 = r2 at q2 b2
  obtain ⟨v2, p2, f2⟩ := r2
  simp only [set_set] at q2 b2
  have q3 := c35 (c := 45) (h := g.set 1 (rdO 87 x p2 f2)) (id := 1) (p := p2) (bad := f2) (by simp) hx (by omega) b2
  have b3 := textR_good.le l p2 f2 b2
  generalize h3 : textR l p2 f2 = r3 at q3 b3
  obtain ⟨v3, p3, f3⟩ := r3
  simp only [set_set] at q3 b3
  have q4 := c36 (c := 45) (h := g.set 1 (rdO 87 x p3 f3)) (id := 1) (p := p3) (bad := f3) (by simp) hx (by omega) b3
  have b4 := boolR_good.le l p3 f3 b3
  generalize h4 : boolR l p3 f3 = r4 at q4 b4
  obtain ⟨v4, p4, f4⟩ := r4
  simp only [set_set] at q4 b4
  have q5 := c64 (h := g.set 1 (rdO 87 x p4 f4)) (p := p4) (bad := f4) (by simp) (S2 _) hx (by omega) b4
  have b5 := intR_good.le l p4 f4 b4
  generalize h5 : intR l p4 f4 = r5 at q5 b5
  obtain ⟨v5, p5, f5⟩ := r5
  simp only [set_set] at q5 b5
  have q6 := c26 (c := 45) (h := g.set 1 (rdO 87 x p5 f5)) (id := 1) (p := p5) (bad := f5) (by simp) hx (by omega) b5
  have b6 := intR_good.le l p5 f5 b5
  generalize h6 : intR l p5 f5 = r6 at q6 b6
  obtain ⟨v6, p6, f6⟩ := r6
  simp only [set_set] at q6 b6
  have q7 := c26 (c := 45) (h := g.set 1 (rdO 87 x p6 f6)) (id := 1) (p := p6) (bad := f6) (by simp) hx (by omega) b6
  have b7 := intR_good.le l p6 f6 b6
  generalize h7 : intR l p6 f6 = r7 at q7 b7
  obtain ⟨v7, p7, f7⟩ := r7
  simp only [set_set] at q7 b7
  have q8 := c26 (c := 45) (h := g.set 1 (rdO 87 x p7 f7)) (id := 1) (p := p7) (bad := f7) (by simp) hx (by omega) b7
  have b8 := intR_good.le l p7 f7 b7
  generalize h8 : intR l p7 f7 = r8 at q8 b8
  obtain ⟨v8, p8, f8⟩ := r8
  simp only [set_set] at q8 b8
  have ld0 : loadD Try.prog g 38 (.ptr 2 0 0 1) = some (.ptr 1 0 0 1) := by simp [go2, ptrO]
  have ld1 : ∀ R, loadD Try.prog (g.set 1 R) 38 (.ptr 2 0 0 1) = some (.ptr 1 0 0 1) := fun R => by simp [go2, ptrO]
  have ld2 : ∀ R o, loadD Try.prog ((g.set 1 R).push o) 38 (.ptr 2 0 0 1) = some (.ptr 1 0 0 1) := fun R o => by simp [go2, ptrO, gn]
  have hst2 : storeD Try.prog ((g.set 1 (rdO 87 x p8 f8)).push (.row 31 9 [.t zeroJob.t])) 31 (.ptr 3 0 0 1) (.t (.agg [.int .i64 v1, .int .i64 v2, .str ⟨v3.toArray⟩, .bool v4, .int .i64 v5, .int .i64 v6, .int .i64 v7, .int .i64 v8, .nilSlice])) = some ((g.set 1 (rdO 87 x p8 f8)).push (jobA (v1, v2, v3, v4, v5, v6, v7, v8) (.t .nilSlice))) := by
    have e3 : (g.set 1 (rdO 87 x p8 f8)).next = 3 := gn
    have := push_set (h := g.set 1 (rdO 87 x p8 f8)) (o := .row 31 9 [.t zeroJob.t]) (o' := jobA (v1, v2, v3, v4, v5, v6, v7, v8) (.t .nilSlice))
    rw [e3] at this
    rw [← this]
    simp [storeD, H.els, gn, D.parts, jobA]
  have q41 := c41 (c := 45) (least := 32) (h := (g.set 1 (rdO 87 x p8 f8)).push (jobA (v1, v2, v3, v4, v5, v6, v7, v8) (.t .nilSlice))) (id := 1) (p := p8) (bad := f8) (by simp [gn]) hx (by omega) b8
  have m35 : md 45 35 = .keep := by simp [md]
  have m36 : md 45 36 = .keep := by simp [md]
  have m26 : md 45 26 = .keep := by simp [md]
  have m64 : md 45 64 = .keep := by simp [md]
  simp -implicitDefEqProofs (maxSteps := 3000000) (disch := omega) [-storeD, -load_ptr, q25, hst, q1, q2, q3, q4, q5, q6, q7, q8, ld0, ld1, ld2, gn, hst2, q41, m35, m36, m26, m64]
  have hc0 : ∀ c : Int, c = (countR l p8 f8 32).1 → 0 ≤ c ∧ c ≤ 1000000 := by
    intro c hc
    cases f8 with
    | true => rw [countR_bad] at hc; simp only at hc; omega
    | false =>
      rcases countR_cases b8 (least := 32) (by omega) with ⟨q, e4⟩ | ⟨n, e4, e5, e6⟩
      · have e4' : countR l p8 false 32 = (0, q, true) := e4
        rw [e4'] at hc; simp only at hc; omega
      · have e4' : countR l p8 false 32 = ((n : Int), p8 + 8, false) := e4.trans e5
        rw [e4'] at hc; simp only at hc; omega
  have hcp : (countR l p8 f8 32).2.1 ≤ l.length := countR_le b8
  have hdec : decP l = if doneR l (varsR l (countR l p8 f8 32).1.toNat (countR l p8 f8 32).2.1 (countR l p8 f8 32).2.2).2.1 (varsR l (countR l p8 f8 32).1.toNat (countR l p8 f8 32).2.1 (countR l p8 f8 32).2.2).2.2 = true then some ((v1, v2, v3, v4, v5, v6, v7, v8), (varsR l (countR l p8 f8 32).1.toNat (countR l p8 f8 32).2.1 (countR l p8 f8 32).2.2).1) else none := by
    unfold decP
    simp only [hdrF, seqR, h1, h2, h3, h4, h5, h6, h7, h8]
  rw [hdec]
  generalize hcr : countR l p8 f8 32 = cr at *
  obtain ⟨c, pc, fc⟩ := cr
  simp only at hc0 hcp ⊢
  obtain ⟨hca, hcb⟩ := hc0 c rfl
  obtain ⟨c, rfl⟩ : ∃ n : Nat, c = n := ⟨c.toNat, by omega⟩
  simp only [Int.toNat_natCast]
  generalize hLp : loopω (LB cx prim 45 Try.f45 0) _ = R
  obtain ⟨x', ⟨nn, env, hh⟩, rfl, rfl, rfl, e2, e4, e6, o0, o1, o2, hhm, dv, o3, hvs⟩ := l45 hx (by omega) (y := (v1, v2, v3, v4, v5, v6, v7, v8)) (c := c) (p0 := pc) (f0 := fc) hcp (by omega) hLp rfl (by simp) (by simp) (by simp) (by simp) (by simp) (by simp) (by simp [gn, go0]) (by simp [gn]) (by simp [gn, go2]) (by simp [gn]) (by simp [gn]) (by simp [gm])
  simp only at e2 e4 e6 o0 o1 o2 hhm o3 hvs
  generalize hvr : varsR l c pc fc = vr at o1 hvs ⊢
  obtain ⟨vs, pv, fv⟩ := vr
  simp only at o1 hvs ⊢
  have q38 := c38 (c := 45) o1 hx
  have ld38 : loadD Try.prog hh 38 (.ptr 2 0 0 1) = some (.ptr 1 0 0 1) := by simp [o2, ptrO]
  have ldz : loadD Try.prog (hh.set 0 (.row 31 9 [.t zeroJob.t])) 31 (.ptr 0 0 0 1) = some (.t zeroJob.t) := by simp [loadD, H.els, partD]
  cases hdn : doneR l pv fv with
  | false =>
    rw [hdn] at q38
    have hst0 : storeD Try.prog hh 31 (.ptr 0 0 0 1) (.t zeroJob.t) = some (hh.set 0 (.row 31 9 [.t zeroJob.t])) := by
      have he : hh.els 0 1 = some (31, 9, [.t zeroJob.t]) := by simp [H.els, o0]
      have hm : ∀ ds, hh.mays 0 ds = true := fun ds => by simp [H.mays, H.may, hhm]
      simp [-H.els, -H.mays, storeD, he, hm, D.parts]
    simp -implicitDefEqProofs (disch := omega) [-storeD, -load_ptr, e2, e4, e6, ld38, q38, hst0, ldz]
  | true =>
    rw [hdn] at q38
    have ldj := jb_ld o3 hvs.cells
    have hst0 := jb_st (x := (v1, v2, v3, v4, v5, v6, v7, v8)) (d := dv) o0 rfl rfl rfl hvs.cells hhm
    have ldf := jb_ld (h := hh.set 0 (jobA (v1, v2, v3, v4, v5, v6, v7, v8) dv)) (J := 0) (x := (v1, v2, v3, v4, v5, v6, v7, v8)) (d := dv) (by simp) hvs.cells
    simp -implicitDefEqProofs (disch := omega) [-storeD, -load_ptr, e2, e4, e6, ld38, q38, ldj, hst0, ldf]
    refine ⟨_, _, ⟨rfl, rfl⟩, dv, rfl, ?_⟩
    rcases hvs with hvs | ⟨id, i1, i2, i3, i4⟩
    · exact .inl hvs
    · exact .inr ⟨id, i1, i2, i3, by simp only [set_objs, upd_ne _ _ (show id ≠ 0 by omega)]; exact i4⟩
/-- A job's image, read. -/
theorem c45 {c : FuncId} {x : T} {l : List UInt8} (hx : Slice x (ub l)) (hl : l.length ≤ 2000000) (hm : md c 45 = .pure) : (decP l = none ∧ ∀ h, callD (cx.at c) (call cx prim) 45 [.t x] h = some (.tup [.t zeroJob.t, .t (.bool false)], h)) ∨ ∃ y vs vt, decP l = some (y, vs) ∧ Slice vt (vs.map varT) ∧ ∀ h, callD (cx.at c) (call cx prim) 45 [.t x] h = some (.tup [.t (jobOf y vt).t, .t (.bool true)], h) := by
  obtain ⟨d, h', q, hd⟩ := s45 hx hl
  cases hdp : decP l with
  | none =>
    rw [hdp] at hd
    simp only at hd
    subst hd
    exact .inl ⟨rfl, fun h => pureT cb45 hm q (by simp [snapOut]) rfl⟩
  | some r =>
    obtain ⟨y, vs⟩ := r
    rw [hdp] at hd
    obtain ⟨dv, rfl, hv⟩ := hd
    obtain ⟨vt, h1, h2⟩ := job_snap (y := y) hv
    exact .inr ⟨y, vs, vt, rfl, h2, fun h => pureT cb45 hm q (by simp only [snapOut, allM, h1, snap_t]; rfl) rfl⟩
end Go.Proofs.Ytccajagfgdchlaa
