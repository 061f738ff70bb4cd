import Derived.Test.YtccajagfgdchlaaKb6
set_option linter.unusedSimpArgs false
set_option linter.unusedVariables false
set_option linter.unusedSectionVars false
namespace Go.Proofs.Ytccajagfgdchlaa
open Vai
set_option maxHeartbeats 0
theorem set_self' {h : H} {id : Nat} {o : AObj} (ho : h.objs id = some o) : h.set id o = h := by
  cases h with
  | mk objs next marks =>
    simp only [H.set, H.mk.injEq, and_true]
    funext j
    simp only [upd]
    split
    · rename_i e; subst e; exact ho.symm
    · rfl
theorem set_comm' {h : H} {i j : Nat} {a b : AObj} (hne : i ≠ j) : (h.set i a).set j b = (h.set j b).set i a := by
  simp only [H.set, H.mk.injEq, and_true]
  funext k
  simp only [upd]
  by_cases h1 : k = i <;> by_cases h2 : k = j
  · exact absurd (h1.symm.trans h2) hne
  · simp [h1, hne]
  · simp [h2, Ne.symm hne]
  · simp [h1, h2]
/-- The reader and the job of the document's Decode. -/
def G3 (R J : AObj) : H := ((H.empty.push (.row 31 9 [.t zeroJob.t])).push R).push J
theorem G3_0 {R J : AObj} : (G3 R J).objs 0 = some (.row 31 9 [.t zeroJob.t]) := by simp [G3]
theorem G3_1 {R J : AObj} : (G3 R J).objs 1 = some R := by simp [G3]
theorem G3_2 {R J : AObj} : (G3 R J).objs 2 = some J := by simp [G3]
theorem G3_n {R J : AObj} : (G3 R J).next = 3 := by simp [G3]
theorem G3_m {R J : AObj} : (G3 R J).marks = [] := rfl
theorem G3_s1 {R R' J : AObj} : (G3 R J).set 1 R' = G3 R' J := by
  unfold G3
  simp only [H.push, H.set, H.mk.injEq, and_true]
  funext k
  simp only [upd, H.empty]
  by_cases h1 : k = 1 <;> by_cases h2 : k = 2 <;> simp [h1, h2] <;> omega
theorem G3_s2 {R J J' : AObj} : (G3 R J).set 2 J' = G3 R J' := push_set (h := (H.empty.push (.row 31 9 [.t zeroJob.t])).push R)
/-- A heap with a reader and one new variable. -/
def KV (h : H) (R V : AObj) : H := (h.set 1 R).push V
section
variable {h : H} {R V R' V' : AObj} (h1 : 3 ≤ h.next)
include h1
theorem KV_1 : (KV h R V).objs 1 = some R := by unfold KV; simp [show ¬ 1 = h.next by omega]
theorem KV_n : (KV h R V).objs h.next = some V := by unfold KV; simp
theorem KV_o {K : Nat} (hK : K ≠ 1) (hK2 : K ≠ h.next) : (KV h R V).objs K = h.objs K := by unfold KV; simp [hK, hK2]
theorem KV_s1 : (KV h R V).set 1 R' = KV h R' V := by
  unfold KV
  simp only [H.push, H.set, H.mk.injEq, and_true]
  funext k
  simp only [upd]
  by_cases h1 : k = 1 <;> by_cases h2 : k = h.next <;> simp [h1, h2] <;> omega
theorem KV_sn : (KV h R V).set h.next V' = KV h R V' := push_set (h := h.set 1 R)
theorem KV_next : (KV h R V).next = h.next + 1 := by unfold KV; simp
end
theorem KV_m {h : H} {R V : AObj} : (KV h R V).marks = h.marks := rfl
abbrev varV (v : VR4) : AObj := .row 58 4 [.t (varT v)]
section
variable {h : H} {n : Nat} {v : VR4} (ho : h.objs n = some (varV v)) (hm : h.marks = [])
include ho
theorem vv_els : h.els n 1 = some (58, 4, [.t (varT v)]) := by simp [H.els, ho]
theorem vv_f0 : fieldAddrD Try.prog h 58 (.ptr n 0 0 1) 0 = some (.ptr n 0 0 1) := by simp [-H.els, fieldAddrD, vv_els ho]
theorem vv_f1 : fieldAddrD Try.prog h 58 (.ptr n 0 0 1) 1 = some (.ptr n 0 1 1) := by simp [-H.els, fieldAddrD, vv_els ho]
theorem vv_g0 : fieldAddrD Try.prog h 56 (.ptr n 0 1 1) 0 = some (.ptr n 0 1 1) := by simp [-H.els, fieldAddrD, vv_els ho]
theorem vv_g1 : fieldAddrD Try.prog h 56 (.ptr n 0 1 1) 1 = some (.ptr n 0 2 1) := by simp [-H.els, fieldAddrD, vv_els ho]
theorem vv_g2 : fieldAddrD Try.prog h 56 (.ptr n 0 1 1) 2 = some (.ptr n 0 3 1) := by simp [-H.els, fieldAddrD, vv_els ho]
theorem vv_ld : loadD Try.prog h 58 (.ptr n 0 0 1) = some (.t (varT v)) := by simp [-H.els, loadD, vv_els ho, partD]
include hm
theorem vv_s0 (s : ByteArray) : storeD Try.prog h 9 (.ptr n 0 0 1) (.t (.str s)) = some (h.set n (varV (s, v.2.1, v.2.2.1, v.2.2.2))) := by
  have hm' : ∀ ds, h.mays n ds = true := fun ds => by simp [H.mays, H.may, hm]
  simp [-H.els, -H.mays, storeD, vv_els ho, hm', D.parts]
theorem vv_s1 (s : Int) : storeD Try.prog h 3 (.ptr n 0 1 1) (.t (.int .i64 s)) = some (h.set n (varV (v.1, s, v.2.2.1, v.2.2.2))) := by
  have hm' : ∀ ds, h.mays n ds = true := fun ds => by simp [H.mays, H.may, hm]
  simp [-H.els, -H.mays, storeD, vv_els ho, hm', D.parts]
theorem vv_s2 (s : Int) : storeD Try.prog h 2 (.ptr n 0 2 1) (.t (.int .i64 s)) = some (h.set n (varV (v.1, v.2.1, s, v.2.2.2))) := by
  have hm' : ∀ ds, h.mays n ds = true := fun ds => by simp [H.mays, H.may, hm]
  simp [-H.els, -H.mays, storeD, vv_els ho, hm', D.parts]
theorem vv_s3 (s : ByteArray) : storeD Try.prog h 9 (.ptr n 0 3 1) (.t (.str s)) = some (h.set n (varV (v.1, v.2.1, v.2.2.1, s))) := by
  have hm' : ∀ ds, h.mays n ds = true := fun ds => by simp [H.mays, H.may, hm]
  simp [-H.els, -H.mays, storeD, vv_els ho, hm', D.parts]
end
section
variable {h : H} {p : Nat} {f : Bool} {x : T} (ho : h.objs 1 = some (rdO 42 x p f)) (hx1 : x.cells = [x])
include ho
theorem rd_els : h.els 1 1 = some (42, 3, [.t (.agg [x, .int .i64 p, .bool f])]) := by simp [H.els, ho]
theorem rd_nil : nilCheckD h (.ptr 1 0 0 1) = some (.ptr 1 0 0 1) := by simp only [nilCheckD, rd_els ho]
theorem rd_f2 : fieldAddrD Try.prog h 42 (.ptr 1 0 0 1) 2 = some (.ptr 1 0 2 1) := by simp [-H.els, fieldAddrD, rd_els ho]
include hx1
theorem rd_l2 : loadD Try.prog h 4 (.ptr 1 0 2 1) = some (.t (.bool f)) := by simp [-H.els, loadD, rd_els ho, partD, hx1]
end
theorem l46 {x : T} {l : List UInt8} (hx : Slice x (ub l)) (hl : l.length ≤ 2000000) {y : Hd} {c p0 : Nat} {f0 : Bool} (hp0 : p0 ≤ l.length) (hc : c ≤ 1000000) {st : St} {r : CR} (hLp : loopω (LB cx prim 46 Try.f46 0) st = r) (en : st.n = 76) (e2 : st.env 2 = .ptr 0 0 0 1) (e4 : st.env 4 = .ptr 1 0 0 1) (e5 : st.env 5 = .ptr 2 0 0 1) (e6 : st.env 6 = .t (.int .i64 c)) (e7 : st.env 7 = .t (.int .i64 0))
    (h0 : st.h.objs 0 = some (.row 31 9 [.t zeroJob.t])) (h1 : st.h.objs 1 = some (rdO 42 x p0 f0)) (h2 : st.h.objs 2 = some (jobA y (.t .nilSlice))) (hn : 3 ≤ st.h.next) (hm : st.h.marks = []) :
    ∃ x' st', r = some (x', st') ∧ x' = .exit 0 ∧ st'.n = 76 ∧ st'.env 2 = .ptr 0 0 0 1 ∧ st'.env 4 = .ptr 1 0 0 1 ∧ st'.env 5 = .ptr 2 0 0 1 ∧ st'.h.objs 0 = some (.row 31 9 [.t zeroJob.t]) ∧ st'.h.objs 1 = some (rdO 42 x (varsQ l c p0 f0).2.1 (varsQ l c p0 f0).2.2) ∧ st'.h.marks = [] ∧ ∃ d, st'.h.objs 2 = some (jobA y d) ∧ VS st'.h d (varsQ l c p0 f0).1 := by
  refine loop_uses hLp c (fun k st => st.n = 76 ∧ st.env 2 = .ptr 0 0 0 1 ∧ st.env 4 = .ptr 1 0 0 1 ∧ st.env 5 = .ptr 2 0 0 1 ∧ st.env 6 = .t (.int .i64 c) ∧ st.env 7 = .t (.int .i64 k) ∧ st.h.objs 0 = some (.row 31 9 [.t zeroJob.t]) ∧ 3 ≤ st.h.next ∧ st.h.marks = [] ∧ ∃ (vs : List VR4) (p : Nat) (f : Bool) (d : D), vs.length = k ∧ p ≤ l.length ∧ varsQ l c p0 f0 = (vs ++ (varsQ l (c - k) p f).1, (varsQ l (c - k) p f).2) ∧ st.h.objs 1 = some (rdO 42 x p f) ∧ st.h.objs 2 = some (jobA y d) ∧ VS st.h d vs) _ ⟨en, e2, e4, e5, e6, e7, h0, hn, hm, [], p0, f0, .t .nilSlice, rfl, hp0, by simp, h1, h2, .inl ⟨rfl, rfl⟩⟩ ?_
  rintro k ⟨nn, env, h⟩ hk ⟨rfl, e2, e4, e5, e6, e7, h0, hn, hm, vs, p, f, d, hvl, hp, hv, h1, h2, hd⟩
  simp only at e2 e4 e5 e6 e7 h0 h1 h2 hn hm hd
  rw [LB_run nd46 rfl]
  have rn := rd_nil h1
  have rf := rd_f2 h1
  have rl := rd_l2 h1 hx.cells1
  by_cases hk' : k < c
  case neg =>
    obtain rfl : k = c := by omega
    have c1 : ¬ (k : Int) < k := by omega
    rw [Nat.sub_self] at hv
    simp only [varsQ, List.append_nil] at hv
    simp -implicitDefEqProofs (disch := omega) [e2, e4, e5, e6, e7, Wp_some]
    rw [hv]
    exact ⟨h0, h1, hm, d, h2, hd⟩
  have c1 : (k : Int) < c := by omega
  cases f with
  | true =>
    have hck : c - k = (c - (k + 1)) + 1 := by omega
    rw [hck] at hv
    simp only [varsQ, if_true, List.append_nil] at hv
    simp -implicitDefEqProofs (disch := omega) [-storeD, -load_ptr, -nilCheckD, -fieldAddrD, -H.els, e2, e4, e5, e6, e7, rn, rf, rl, Wp_some]
    rw [hv]
    exact ⟨h0, h1, hm, d, h2, hd⟩
  | false =>
    obtain ⟨g, hg⟩ : ∃ g, g = KV h := ⟨_, rfl⟩
    have hpush : h.push (varV (⟨#[]⟩, 0, 0, ⟨#[]⟩)) = g (rdO 42 x p false) (varV (⟨#[]⟩, 0, 0, ⟨#[]⟩)) := by rw [hg, KV, set_self' h1]
    have o1 : ∀ R V, (g R V).objs 1 = some R := fun R V => by rw [hg]; exact KV_1 hn
    have on : ∀ R V, (g R V).objs h.next = some V := fun R V => by rw [hg]; exact KV_n hn
    have o2 : ∀ R V, (g R V).objs 2 = some (jobA y d) := fun R V => by rw [hg, KV_o hn (by omega) (by omega)]; exact h2
    have s1 : ∀ R V R', (g R V).set 1 R' = g R' V := fun R V R' => by rw [hg]; exact KV_s1 hn
    have sn : ∀ R V V', (g R V).set h.next V' = g R V' := fun R V V' => by rw [hg]; exact KV_sn hn
    have gm : ∀ R V, (g R V).marks = [] := fun R V => by rw [hg]; exact hm
    have gn : ∀ R V, (g R V).next = h.next + 1 := fun R V => by rw [hg]; exact KV_next hn
    have oo : ∀ R V K, K ≠ 1 → K ≠ h.next → (g R V).objs K = h.objs K := fun R V K a b => by rw [hg]; exact KV_o hn a b
    clear hg
    have q1 := fun V => c39 (c := 46) (h := g (rdO 42 x p false) V) (id := 1) (p := p) (bad := false) (o1 _ _) hx (by omega) hp
    have b1 := textR_good.le l p false hp
    generalize g1 : textR l p false = r1 at q1 b1
    obtain ⟨v1, p1, f1⟩ := r1
    simp only [s1] at q1 b1
    have q2 := fun V => c27 (c := 46) (h := g (rdO 42 x p1 f1) V) (id := 1) (p := p1) (bad := f1) (o1 _ _) hx (by omega) b1
    have b2 := intR_good.le l p1 f1 b1
    generalize g2 : intR l p1 f1 = r2 at q2 b2
    obtain ⟨v2, p2, f2⟩ := r2
    simp only [s1] at q2 b2
    have q3 := fun V => c27 (c := 46) (h := g (rdO 42 x p2 f2) V) (id := 1) (p := p2) (bad := f2) (o1 _ _) hx (by omega) b2
    have b3 := intR_good.le l p2 f2 b2
    generalize g3 : intR l p2 f2 = r3 at q3 b3
    obtain ⟨v3, p3, f3⟩ := r3
    simp only [s1] at q3 b3
    have q4 := fun V => c39 (c := 46) (h := g (rdO 42 x p3 f3) V) (id := 1) (p := p3) (bad := f3) (o1 _ _) hx (by omega) b3
    have b4 := textR_good.le l p3 f3 b3
    generalize g4 : textR l p3 f3 = r4 at q4 b4
    obtain ⟨v4, p4, f4⟩ := r4
    simp only [s1] at q4 b4
    have hvr : varR l p false = ((v1, v2, v3, v4), p4, f4) := by simp only [varR, seqR, g1, g2, g3, g4]
    have hck : c - k = (c - (k + 1)) + 1 := by omega
    have hv2 : varsQ l c p0 f0 = ((vs ++ [toV (v1, v2, v3, v4)]) ++ (varsQ l (c - (k + 1)) p4 f4).1, (varsQ l (c - (k + 1)) p4 f4).2) := by
      rw [hv, hck]
      simp only [varsQ, hvr, Bool.false_eq_true, if_false]
      simp
    have a0 := fun R => vv_s0 (v := (⟨#[]⟩, 0, 0, ⟨#[]⟩)) (on R _) (gm R _) ⟨v1.toArray⟩
    have a1 := fun R => vv_s1 (v := (⟨v1.toArray⟩, 0, 0, ⟨#[]⟩)) (on R _) (gm R _) v2
    have a2 := fun R => vv_s2 (v := (⟨v1.toArray⟩, v2, 0, ⟨#[]⟩)) (on R _) (gm R _) v3
    have a3 := fun R => vv_s3 (v := (⟨v1.toArray⟩, v2, v3, ⟨#[]⟩)) (on R _) (gm R _) ⟨v4.toArray⟩
    simp only [sn] at a0 a1 a2 a3
    have F0 := fun R a1 a2 a3 a4 => vv_f0 (v := (a1, a2, a3, a4)) (on R (varV (a1, a2, a3, a4)))
    have F1 := fun R a1 a2 a3 a4 => vv_f1 (v := (a1, a2, a3, a4)) (on R (varV (a1, a2, a3, a4)))
    have E0 := fun R a1 a2 a3 a4 => vv_g0 (v := (a1, a2, a3, a4)) (on R (varV (a1, a2, a3, a4)))
    have E1 := fun R a1 a2 a3 a4 => vv_g1 (v := (a1, a2, a3, a4)) (on R (varV (a1, a2, a3, a4)))
    have E2 := fun R a1 a2 a3 a4 => vv_g2 (v := (a1, a2, a3, a4)) (on R (varV (a1, a2, a3, a4)))
    have LD := fun R a1 a2 a3 a4 => vv_ld (v := (a1, a2, a3, a4)) (on R (varV (a1, a2, a3, a4)))
    have hVS : VS (g (rdO 42 x p4 f4) (varV (toV (v1, v2, v3, v4)))) d vs := by
      rcases hd with hd | ⟨id, i1, i2, i3, i4⟩
      · exact .inl hd
      · exact .inr ⟨id, i1, by rw [gn]; omega, i3, by rw [oo _ _ _ (by omega) (by omega)]; exact i4⟩
    obtain ⟨d', h', qa, ra, rnx, rm, ro⟩ := var_add hVS (by rw [gn]; omega) (gm _ _) (by omega) (toV (v1, v2, v3, v4))
    have o3 : h'.objs 2 = some (jobA y d) := by rw [ro 2 (by omega)]; exact o2 _ _
    have f8 := fun R V => jb_f8 (o2 R V)
    have l8 := fun R V => jb_l8 (o2 R V) hd.cells
    have f8q := jb_f8 o3
    have s8 := jb_s8 o3 hd.cells ra.cells (by simp [rm])
    simp only [toV, gn] at qa
    have hpush' : h.push (.row 58 4 [.t (.agg [.str ⟨#[]⟩, .int .i64 0, .int .i64 0, .str ⟨#[]⟩])]) = g (rdO 42 x p false) (varV (⟨#[]⟩, 0, 0, ⟨#[]⟩)) := hpush
    simp only [varV, varT] at a0 a1 a2 a3 F0 F1 E0 E1 E2 LD hpush' qa
    simp -implicitDefEqProofs (maxSteps := 3000000) (disch := omega) [-storeD, -load_ptr, -nilCheckD, -fieldAddrD, -H.els, e2, e4, e5, e6, e7, rn, rf, rl, hpush', q1, q2, q3, q4, a0, a1, a2, a3, F0, F1, E0, E1, E2, LD, f8, l8, f8q, s8, qa, gn, buildSliceD, List.replicate, Wp_some]
    have ra3 : VS (h'.set 2 (jobA y d')) d' (vs ++ [toV (v1, v2, v3, v4)]) := by
      rcases ra with ra | ⟨id, i1, i2, i3, i4⟩
      · exact .inl ra
      · exact .inr ⟨id, i1, i2, i3, by simp only [set_objs, upd_ne _ _ (show id ≠ 2 by omega)]; exact i4⟩
    have w0 : h'.objs 0 = some (.row 31 9 [.t zeroJob.t]) := by rw [ro 0 (by omega), oo _ _ _ (by omega) (by omega)]; exact h0
    have w1 : h'.objs 1 = some (rdO 42 x p4 f4) := by rw [ro 1 (by omega)]; exact o1 _ _
    have rn' : 3 ≤ h'.next := by rw [gn] at rnx; omega
    refine ⟨hk', w0, rn', rm, vs ++ [toV (v1, v2, v3, v4)], by simp [hvl], p4, b4, ?_⟩
    cases f4 with
    | false => exact .inl ⟨hv2, w1, d', rfl, ra3⟩
    | true => exact .inr ⟨hv2, w1, d', rfl, ra3⟩
end Go.Proofs.Ytccajagfgdchlaa
