import Derived.Test.YtccajagfgdchlaaKb7
set_option linter.unusedSimpArgs false
set_option linter.unusedVariables false
set_option linter.unusedSectionVars false
namespace Go.Proofs.Ytccajagfgdchlaa
open Vai
set_option maxHeartbeats 0
theorem G3_els {R : AObj} {cs : List T} : (G3 R (.row 31 9 [.t (.agg cs)])).els 2 1 = some (31, 9, [.t (.agg cs)]) := by simp [H.els, G3_2]
theorem G3_f {R : AObj} {cs : List T} {k : Nat} (hk : k ≤ 8) : fieldAddrD Try.prog (G3 R (.row 31 9 [.t (.agg cs)])) 31 (.ptr 2 0 0 1) k = some (.ptr 2 0 k 1) := by
  have h9 : k = 0 ∨ k = 1 ∨ k = 2 ∨ k = 3 ∨ k = 4 ∨ k = 5 ∨ k = 6 ∨ k = 7 ∨ k = 8 := by omega
  rcases h9 with rfl | rfl | rfl | rfl | rfl | rfl | rfl | rfl | rfl <;> simp [-H.els, fieldAddrD, G3_els]
theorem s46 {x : T} {l : List UInt8} (hx : Slice x (ub l)) (hl : l.length ≤ 1000000) : ∃ d h', call cx prim 46 [.t x] .empty = some (d, h') ∧ (match decQ l with
    | none => d = .tup [.t zeroJob.t, .t (.bool false)]
    | some (y, vs) => ∃ dv, d = .tup [jobD y dv, .t (.bool true)] ∧ VS h' dv vs) := by
  rw [call_run rfl Try.func46 ok46 nd46 rfl (Nat.le_of_ble_eq_true rfl) rfl rfl]
  have hm' : ∀ R J ds, (G3 R J).mays 2 ds = true := fun R J ds => by simp [H.mays, H.may, G3_m]
  have hpush : ((H.empty.push (.row 31 9 [.t (.agg [.int .i64 0, .int .i64 0, .str ⟨#[]⟩, .bool false, .int .i64 0, .int .i64 0, .int .i64 0, .int .i64 0, .nilSlice])])).push (.row 42 3 [.t (.agg [x, .int .i64 0, .bool false])])).push (.row 31 9 [.t (.agg [.int .i64 0, .int .i64 0, .str ⟨#[]⟩, .bool false, .int .i64 0, .int .i64 0, .int .i64 0, .int .i64 0, .nilSlice])]) = G3 (rdO 42 x (0 : Nat) false) (.row 31 9 [.t (.agg [.int .i64 0, .int .i64 0, .str ⟨#[]⟩, .bool false, .int .i64 0, .int .i64 0, .int .i64 0, .int .i64 0, .nilSlice])]) := rfl
  have q1 := fun J => c27 (c := 46) (h := G3 (rdO 42 x (0 : Nat) false) J) (id := 1) (p := 0) (bad := false) G3_1 hx (by omega) (Nat.zero_le _)
  have b1 := intR_good.le l 0 false (Nat.zero_le _)
  generalize h1 : intR l 0 false = r1 at q1 b1
  obtain ⟨v1, p1, f1⟩ := r1
  simp only [G3_s1] at q1 b1
  have st1 : ∀ R, storeD Try.prog (G3 R (.row 31 9 [.t (.agg [.int .i64 0, .int .i64 0, .str ⟨#[]⟩, .bool false, .int .i64 0, .int .i64 0, .int .i64 0, .int .i64 0, .nilSlice])])) 3 (.ptr 2 0 0 1) (.t (.int .i64 v1)) = some (G3 R (.row 31 9 [.t (.agg [.int .i64 v1, .int .i64 0, .str ⟨#[]⟩, .bool false, .int .i64 0, .int .i64 0, .int .i64 0, .int .i64 0, .nilSlice])])) := fun R => by
    simp [-H.els, -H.mays, storeD, G3_els, hm', D.parts, G3_s2]
  have q2 := fun J => c27 (c := 46) (h := G3 (rdO 42 x (p1 : Nat) f1) J) (id := 1) (p := p1) (bad := f1) G3_1 hx (by omega) b1
  have b2 := intR_good.le l p1 f1 b1
  generalize h2 : intR l p1 f1 = r2 at q2 b2
  obtain ⟨v2, p2, f2⟩ := r2
  simp only [G3_s1] at q2 b2
  have st2 : ∀ R, storeD Try.prog (G3 R (.row 31 9 [.t (.agg [.int .i64 v1, .int .i64 0, .str ⟨#[]⟩, .bool false, .int .i64 0, .int .i64 0, .int .i64 0, .int .i64 0, .nilSlice])])) 3 (.ptr 2 0 1 1) (.t (.int .i64 v2)) = some (G3 R (.row 31 9 [.t (.agg [.int .i64 v1, .int .i64 v2, .str ⟨#[]⟩, .bool false, .int .i64 0, .int .i64 0, .int .i64 0, .int .i64 0, .nilSlice])])) := fun R => by
    simp [-H.els, -H.mays, storeD, G3_els, hm', D.parts, G3_s2]
  have q3 := fun J => c39 (c := 46) (h := G3 (rdO 42 x (p2 : Nat) f2) J) (id := 1) (p := p2) (bad := f2) G3_1 hx (by omega) b2
  have b3 := textR_good.le l p2 f2 b2
  generalize h3 : textR l p2 f2 = r3 at q3 b3
  obtain ⟨v3, p3, f3⟩ := r3
  simp only [G3_s1] at q3 b3
  have st3 : ∀ R, storeD Try.prog (G3 R (.row 31 9 [.t (.agg [.int .i64 v1, .int .i64 v2, .str ⟨#[]⟩, .bool false, .int .i64 0, .int .i64 0, .int .i64 0, .int .i64 0, .nilSlice])])) 9 (.ptr 2 0 2 1) (.t (.str ⟨v3.toArray⟩)) = some (G3 R (.row 31 9 [.t (.agg [.int .i64 v1, .int .i64 v2, .str ⟨v3.toArray⟩, .bool false, .int .i64 0, .int .i64 0, .int .i64 0, .int .i64 0, .nilSlice])])) := fun R => by
    simp [-H.els, -H.mays, storeD, G3_els, hm', D.parts, G3_s2]
  have q4 := fun J => c40 (c := 46) (h := G3 (rdO 42 x (p3 : Nat) f3) J) (id := 1) (p := p3) (bad := f3) G3_1 hx (by omega) b3
  have b4 := boolR_good.le l p3 f3 b3
  generalize h4 : boolR l p3 f3 = r4 at q4 b4
  obtain ⟨v4, p4, f4⟩ := r4
  simp only [G3_s1] at q4 b4
  have st4 : ∀ R, storeD Try.prog (G3 R (.row 31 9 [.t (.agg [.int .i64 v1, .int .i64 v2, .str ⟨v3.toArray⟩, .bool false, .int .i64 0, .int .i64 0, .int .i64 0, .int .i64 0, .nilSlice])])) 4 (.ptr 2 0 3 1) (.t (.bool v4)) = some (G3 R (.row 31 9 [.t (.agg [.int .i64 v1, .int .i64 v2, .str ⟨v3.toArray⟩, .bool v4, .int .i64 0, .int .i64 0, .int .i64 0, .int .i64 0, .nilSlice])])) := fun R => by
    simp [-H.els, -H.mays, storeD, G3_els, hm', D.parts, G3_s2]
  have q5 := fun J => c27 (c := 46) (h := G3 (rdO 42 x (p4 : Nat) f4) J) (id := 1) (p := p4) (bad := f4) G3_1 hx (by omega) b4
  have b5 := intR_good.le l p4 f4 b4
  generalize h5 : intR l p4 f4 = r5 at q5 b5
  obtain ⟨v5, p5, f5⟩ := r5
  simp only [G3_s1] at q5 b5
  have st5 : ∀ R, storeD Try.prog (G3 R (.row 31 9 [.t (.agg [.int .i64 v1, .int .i64 v2, .str ⟨v3.toArray⟩, .bool v4, .int .i64 0, .int .i64 0, .int .i64 0, .int .i64 0, .nilSlice])])) 3 (.ptr 2 0 4 1) (.t (.int .i64 v5)) = some (G3 R (.row 31 9 [.t (.agg [.int .i64 v1, .int .i64 v2, .str ⟨v3.toArray⟩, .bool v4, .int .i64 v5, .int .i64 0, .int .i64 0, .int .i64 0, .nilSlice])])) := fun R => by
    simp [-H.els, -H.mays, storeD, G3_els, hm', D.parts, G3_s2]
  have q6 := fun J => c27 (c := 46) (h := G3 (rdO 42 x (p5 : Nat) f5) J) (id := 1) (p := p5) (bad := f5) G3_1 hx (by omega) b5
  have b6 := intR_good.le l p5 f5 b5
  generalize h6 : intR l p5 f5 = r6 at q6 b6
  obtain ⟨v6, p6, f6⟩ := r6
  simp only [G3_s1] at q6 b6
  have st6 : ∀ R, storeD Try.prog (G3 R (.row 31 9 [.t (.agg [.int .i64 v1, .int .i64 v2, .str ⟨v3.toArray⟩, .bool v4, .int .i64 v5, .int .i64 0, .int .i64 0, .int .i64 0, .nilSlice])])) 2 (.ptr 2 0 5 1) (.t (.int .i64 v6)) = some (G3 R (.row 31 9 [.t (.agg [.int .i64 v1, .int .i64 v2, .str ⟨v3.toArray⟩, .bool v4, .int .i64 v5, .int .i64 v6, .int .i64 0, .int .i64 0, .nilSlice])])) := fun R => by
    simp [-H.els, -H.mays, storeD, G3_els, hm', D.parts, G3_s2]
  have q7 := fun J => c27 (c := 46) (h := G3 (rdO 42 x (p6 : Nat) f6) J) (id := 1) (p := p6) (bad := f6) G3_1 hx (by omega) b6
  have b7 := intR_good.le l p6 f6 b6
  generalize h7 : intR l p6 f6 = r7 at q7 b7
  obtain ⟨v7, p7, f7⟩ := r7
  simp only [G3_s1] at q7 b7
  have st7 : ∀ R, storeD Try.prog (G3 R (.row 31 9 [.t (.agg [.int .i64 v1, .int .i64 v2, .str ⟨v3.toArray⟩, .bool v4, .int .i64 v5, .int .i64 v6, .int .i64 0, .int .i64 0, .nilSlice])])) 2 (.ptr 2 0 6 1) (.t (.int .i64 v7)) = some (G3 R (.row 31 9 [.t (.agg [.int .i64 v1, .int .i64 v2, .str ⟨v3.toArray⟩, .bool v4, .int .i64 v5, .int .i64 v6, .int .i64 v7, .int .i64 0, .nilSlice])])) := fun R => by
    simp [-H.els, -H.mays, storeD, G3_els, hm', D.parts, G3_s2]
  have q8 := fun J => c27 (c := 46) (h := G3 (rdO 42 x (p7 : Nat) f7) J) (id := 1) (p := p7) (bad := f7) G3_1 hx (by omega) b7
  have b8 := intR_good.le l p7 f7 b7
  generalize h8 : intR l p7 f7 = r8 at q8 b8
  obtain ⟨v8, p8, f8⟩ := r8
  simp only [G3_s1] at q8 b8
  have st8 : ∀ R, storeD Try.prog (G3 R (.row 31 9 [.t (.agg [.int .i64 v1, .int .i64 v2, .str ⟨v3.toArray⟩, .bool v4, .int .i64 v5, .int .i64 v6, .int .i64 v7, .int .i64 0, .nilSlice])])) 2 (.ptr 2 0 7 1) (.t (.int .i64 v8)) = some (G3 R (.row 31 9 [.t (.agg [.int .i64 v1, .int .i64 v2, .str ⟨v3.toArray⟩, .bool v4, .int .i64 v5, .int .i64 v6, .int .i64 v7, .int .i64 v8, .nilSlice])])) := fun R => by
    simp [-H.els, -H.mays, storeD, G3_els, hm', D.parts, G3_s2]
  have q42 := fun J => c42 (c := 46) (least := 1) (h := G3 (rdO 42 x p8 f8) J) (id := 1) (p := p8) (bad := f8) G3_1 hx (by omega) b8
  simp only [G3_s1] at q42
  simp -implicitDefEqProofs (maxSteps := 3000000) (disch := omega) [-storeD, -load_ptr, -fieldAddrD, -H.els, hx.cells1, hpush, q1, q2, q3, q4, q5, q6, q7, q8, st1, st2, st3, st4, st5, st6, st7, st8, G3_f, q42]
  have hc0 : ∀ c : Int, c = (countR l p8 f8 1).1 → 0 ≤ c ∧ c ≤ 1000000 := by
    intro c hc
    cases f8 with
    | true => rw [countR_bad] at hc; simp only at hc; omega
    | false =>
      rcases countR_cases b8 (least := 1) (by omega) with ⟨q, e4⟩ | ⟨n, e4, e5, e6⟩
      · have e4' : countR l p8 false 1 = (0, q, true) := e4
        rw [e4'] at hc; simp only at hc; omega
      · have e4' : countR l p8 false 1 = ((n : Int), p8 + 8, false) := e4.trans e5
        rw [e4'] at hc; simp only at hc; omega
  have hcp : (countR l p8 f8 1).2.1 ≤ l.length := countR_le b8
  have hdec : decQ l = if doneR l (varsQ l (countR l p8 f8 1).1.toNat (countR l p8 f8 1).2.1 (countR l p8 f8 1).2.2).2.1 (varsQ l (countR l p8 f8 1).1.toNat (countR l p8 f8 1).2.1 (countR l p8 f8 1).2.2).2.2 = true then some ((v1, v2, v3, v4, v5, v6, v7, v8), (varsQ l (countR l p8 f8 1).1.toNat (countR l p8 f8 1).2.1 (countR l p8 f8 1).2.2).1) else none := by
    unfold decQ
    simp only [hdrF, seqR, h1, h2, h3, h4, h5, h6, h7, h8]
  rw [hdec]
  generalize hcr : countR l p8 f8 1 = cr at *
  obtain ⟨c, pc, fc⟩ := cr
  simp only at hc0 hcp ⊢
  obtain ⟨hca, hcb⟩ := hc0 c rfl
  obtain ⟨c, rfl⟩ : ∃ n : Nat, c = n := ⟨c.toNat, by omega⟩
  simp only [Int.toNat_natCast]
  generalize hLp : loopω (LB cx prim 46 Try.f46 0) _ = R
  obtain ⟨x', ⟨nn, env, hh⟩, rfl, rfl, rfl, e2, e4, e5, o0, o1, hhm, dv, o3, hvs⟩ := l46 hx (by omega) (y := (v1, v2, v3, v4, v5, v6, v7, v8)) (c := c) (p0 := pc) (f0 := fc) hcp (by omega) hLp rfl (by simp) (by simp) (by simp) (by simp) (by simp) G3_0 G3_1 G3_2 (by rw [G3_n]; exact Nat.le_refl _) G3_m
  simp only at e2 e4 e5 o0 o1 o3 hhm hvs
  generalize hvr : varsQ l c pc fc = vr at o1 hvs ⊢
  obtain ⟨vs, pv, fv⟩ := vr
  simp only at o1 hvs ⊢
  have q43 := c43 (c := 46) o1 hx
  have ldz : loadD Try.prog (hh.set 0 (.row 31 9 [.t zeroJob.t])) 31 (.ptr 0 0 0 1) = some (.t zeroJob.t) := by simp [loadD, H.els, partD]
  cases hdn : doneR l pv fv with
  | false =>
    rw [hdn] at q43
    have hst0 : storeD Try.prog hh 31 (.ptr 0 0 0 1) (.t zeroJob.t) = some (hh.set 0 (.row 31 9 [.t zeroJob.t])) := by
      have he : hh.els 0 1 = some (31, 9, [.t zeroJob.t]) := by simp [H.els, o0]
      have hm : ∀ ds, hh.mays 0 ds = true := fun ds => by simp [H.mays, H.may, hhm]
      simp [-H.els, -H.mays, storeD, he, hm, D.parts]
    simp -implicitDefEqProofs (disch := omega) [-storeD, -load_ptr, e2, e4, e5, q43, hst0, ldz]
  | true =>
    rw [hdn] at q43
    have ldj := jb_ld o3 hvs.cells
    have hst0 := jb_st (x := (v1, v2, v3, v4, v5, v6, v7, v8)) (d := dv) o0 rfl rfl rfl hvs.cells hhm
    have ldf := jb_ld (h := hh.set 0 (jobA (v1, v2, v3, v4, v5, v6, v7, v8) dv)) (J := 0) (x := (v1, v2, v3, v4, v5, v6, v7, v8)) (d := dv) (by simp) hvs.cells
    simp -implicitDefEqProofs (disch := omega) [-storeD, -load_ptr, e2, e4, e5, q43, ldj, hst0, ldf]
    refine ⟨_, _, ⟨rfl, rfl⟩, dv, rfl, ?_⟩
    rcases hvs with hvs | ⟨id, i1, i2, i3, i4⟩
    · exact .inl hvs
    · exact .inr ⟨id, i1, i2, i3, by simp only [set_objs, upd_ne _ _ (show id ≠ 0 by omega)]; exact i4⟩
theorem c46 {c : FuncId} {x : T} {l : List UInt8} (hx : Slice x (ub l)) (hl : l.length ≤ 1000000) (hm : md c 46 = .pure) : (decP l = none ∧ ∀ h, callD (cx.at c) (call cx prim) 46 [.t x] h = some (.tup [.t zeroJob.t, .t (.bool false)], h)) ∨ ∃ y vs vt, decP l = some (y, vs) ∧ Slice vt (vs.map varT) ∧ ∀ h, callD (cx.at c) (call cx prim) 46 [.t x] h = some (.tup [.t (jobOf y vt).t, .t (.bool true)], h) := by
  obtain ⟨d, h', q, hd⟩ := s46 hx hl
  rw [dec_eq] at hd
  cases hdp : decP l with
  | none =>
    rw [hdp] at hd
    simp only at hd
    subst hd
    exact .inl ⟨rfl, fun h => pureT cb46 hm q (by simp [snapOut]) rfl⟩
  | some r =>
    obtain ⟨y, vs⟩ := r
    rw [hdp] at hd
    obtain ⟨dv, rfl, hv⟩ := hd
    obtain ⟨vt, h1, h2⟩ := job_snap (y := y) hv
    exact .inr ⟨y, vs, vt, rfl, h2, fun h => pureT cb46 hm q (by simp only [snapOut, allM, h1, snap_t]; rfl) rfl⟩
end Go.Proofs.Ytccajagfgdchlaa
