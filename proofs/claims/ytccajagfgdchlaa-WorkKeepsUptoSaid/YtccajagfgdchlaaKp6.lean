import Derived.Test.YtccajagfgdchlaaKp5
set_option linter.unusedSimpArgs false
set_option linter.unusedVariables false
namespace Go.Proofs.Ytccajagfgdchlaa.Kp
open Vai
set_option maxHeartbeats 0
abbrev boxO (d : D) : AObj := .row 31 9 [d]
theorem step7 {j : Job} {g0 g1 : H} {d1 : D} (hbox : g0.objs 0 = some (boxO (.t j.t))) (h0 : 0 < g0.next) (hm : g0.marks = []) (hd : JD g1 d1) (hf : Fr g0 g1) :
    storeD Try.prog (g1.push (boxO (.t zeroJob.t))) 31 (.ptr g1.next 0 0 1) d1 = some (g1.push (boxO d1)) ∧ loadD Try.prog (g1.push (boxO d1)) 31 (.ptr 0 0 0 1) = some (.t j.t) ∧ (g1.push (boxO d1)).objs 0 = some (boxO (.t j.t)) ∧ 0 < (g1.push (boxO d1)).next ∧ (g1.push (boxO d1)).marks = [] ∧ JD (g1.push (boxO d1)) d1 ∧ (g1.push (boxO d1)).objs g1.next = some (boxO d1) ∧ Fr g0 (g1.push (boxO d1)) := by
  have h1 := js_store (h := g1.push (boxO (.t zeroJob.t))) (id := g1.next) (d := d1) (old := .t zeroJob.t) (by simp [H.push, upd]) (.inl ⟨zeroJob, rfl⟩) hd.js (by simp [hf.2.2, hm])
  rw [push_set] at h1
  have hb1 : g1.objs 0 = some (boxO (.t j.t)) := (hf.2.1 0 h0).trans hbox
  have hb : (g1.push (boxO d1)).objs 0 = some (boxO (.t j.t)) := by
    have := hf.1
    simp [H.push, upd, show ¬ (0 = g1.next) by omega, hb1]
  refine ⟨h1, ?_, hb, Nat.succ_pos _, hf.2.2.trans hm, (Fr.push _ _).jd hd, ?_, hf.then⟩
  · simp [load_ptr, H.els, hb, partD]
  · simp [H.push, upd]
theorem js_beq {d : D} (hd : JS d) : d.beq d = true := by
  rcases hd with ⟨j, rfl⟩ | ⟨j, i, n, rfl⟩ <;> simp [D.beq, D.beq.beqs]
theorem law7 (j : Job) (now : Int) {vs : List (ByteArray × Int × Int × ByteArray)} (hv : Slice j.vars (vs.map varT)) (hb : bulkOK vs) (hn : j.node.size ≤ 1500000) : ∃ h', call cx prim 7 [.t j.t, .t (.int .i64 now)] .empty = some (.t (.bool true), h') := by
  rw [call_run rfl Try.func7 ok7 nd7 rfl (Nat.le_of_ble_eq_true rfl) rfl rfl]
  have hlx := fun hh => hv.len (P := Try.prog) (t := 29) tk29 hh
  rw [List.length_map] at hlx
  have w24 := c24 (c := 7)
  by_cases hlen : 200 < vs.length
  · simp -implicitDefEqProofs (disch := omega) [hlx, hv.cells1, w24 _ (by simp [md]), hlen]
  · have hl2 : vs.length ≤ 200 := by omega
    have q34 := fun g => c34 (c := 7) j hv hb hn g (by simp [md])
    have qc := fun hh => conv_bytes (P := Try.prog) (h := hh) tk22 tk9 tk5 (.mk (es := ub (encJ j vs)))
    have S := six j now hv hb
    obtain ⟨d1, e1, g1, q1, jd1, fr1⟩ := S.a (H.empty.push (boxO (.t j.t))) rfl
    obtain ⟨s1, l1, b1, p1, m1, jd1, o1, f1⟩ := step7 (g0 := H.empty.push (boxO (.t j.t))) (j := j) rfl (by simp) rfl jd1 fr1
    obtain ⟨d2, e2, g2, q2, jd2, fr2⟩ := S.b (g1.push (boxO d1)) m1
    obtain ⟨s2, l2, b2, p2, m2, jd2, o2, f2⟩ := step7 b1 p1 m1 jd2 fr2
    obtain ⟨d3, e3, g3, q3, jd3, fr3⟩ := S.c (g2.push (boxO d2)) m2
    obtain ⟨s3, l3, b3, p3, m3, jd3, o3, f3⟩ := step7 b2 p2 m2 jd3 fr3
    obtain ⟨d4, e4, g4, q4, jd4, fr4⟩ := S.d (g3.push (boxO d3)) m3
    obtain ⟨s4, l4, b4, p4, m4, jd4, o4, f4⟩ := step7 b3 p3 m3 jd4 fr4
    obtain ⟨d5, g5, q5, jd5, fr5⟩ := S.e (g4.push (boxO d4)) m4
    obtain ⟨d6, g6, q6, jd6, fr6⟩ := S.f g5 (fr5.2.2.trans m4)
    simp -implicitDefEqProofs (disch := omega) [hlx, hv.cells1, w24 _ (by simp [md]), hl2, q34, qc]
    have L1 : ∀ g, Fr (g1.push (boxO d1)) g → loadD Try.prog g 31 (.ptr g1.next 0 0 1) = some d1 := fun g hf => js_load ((hf.2.1 _ (Nat.lt_succ_self _)).trans o1) jd1.js
    have L2 : ∀ g, Fr (g2.push (boxO d2)) g → loadD Try.prog g 31 (.ptr g2.next 0 0 1) = some d2 := fun g hf => js_load ((hf.2.1 _ (Nat.lt_succ_self _)).trans o2) jd2.js
    have L3 : ∀ g, Fr (g3.push (boxO d3)) g → loadD Try.prog g 31 (.ptr g3.next 0 0 1) = some d3 := fun g hf => js_load ((hf.2.1 _ (Nat.lt_succ_self _)).trans o3) jd3.js
    have L4 : ∀ g, Fr (g4.push (boxO d4)) g → loadD Try.prog g 31 (.ptr g4.next 0 0 1) = some d4 := fun g hf => js_load ((hf.2.1 _ (Nat.lt_succ_self _)).trans o4) jd4.js
    have f6 := fr5.trans fr6
    have bL : ∀ g, g.objs 0 = some (boxO (.t j.t)) → loadD Try.prog g 29 (.ptr 0 0 8 1) = some (.t j.vars) := fun g hg => by simp [load_ptr, H.els, hg, partD, hv.cells1]
    have b5 : g5.objs 0 = some (boxO (.t j.t)) := (fr5.2.1 0 p4).trans b4
    have b6 : g6.objs 0 = some (boxO (.t j.t)) := (f6.2.1 0 p4).trans b4
    have bd := js_build (h := g6) jd1.js jd2.js jd3.js jd4.js jd5.js jd6.js
    have a40 := L1 _ ((f2.trans f3).trans f4)
    have a41 := L1 _ (((f2.trans f3).trans f4).trans fr5)
    have a42 := L1 _ (((f2.trans f3).trans f4).trans f6)
    have a50 := L2 _ (f3.trans f4)
    have a51 := L2 _ ((f3.trans f4).trans fr5)
    have a52 := L2 _ ((f3.trans f4).trans f6)
    have a60 := L3 _ f4
    have a61 := L3 _ (f4.trans fr5)
    have a62 := L3 _ (f4.trans f6)
    have a70 := L4 _ (Fr.refl _)
    have a71 := L4 _ fr5
    have a72 := L4 _ f6
    have v4 := bL _ b4
    have v5 := bL _ b5
    have v6 := bL _ b6
    clear L1 L2 L3 L4 bL
    have z4 : g4.objs 0 = some (boxO (.t j.t)) := (fr4.2.1 0 p3).trans b3
    have n4 : ¬ (0 = g4.next) := by have := fr4.1; omega
    simp -implicitDefEqProofs (disch := omega) [-storeD, -load_ptr, -load_eptr, q1, s1, l1, q2, s2, l2, q3, s3, l3, q4, s4, l4, q5, q6, a40, a41, a42, a50, a51, a52, a60, a61, a62, a70, a71, a72, v4, v5, v6, bd, md, b5, b6, z4, n4, js_beq jd1.js, js_beq jd2.js, js_beq jd3.js, js_beq jd4.js]
    generalize hL : loopω (LB cx prim 7 Try.f7 0) _ = R
    have inv : Inv7 (g6.push (.row 31 9 [d1, d2, d3, d4, d5, d6])) g6.next j [d1, d2, d3, d4, d5, d6] := by
      refine ⟨rfl, by simp [H.push, upd], ?_, ?_, ?_⟩
      · have := f6.1
        simp [H.push, upd, show ¬ (0 = g6.next) by omega, b6]
      · intro d hd
        have e6 : Fr g6 (g6.push (.row 31 9 [d1, d2, d3, d4, d5, d6])) := Fr.push _ _
        simp only [List.mem_cons, List.not_mem_nil, or_false] at hd
        rcases hd with rfl | rfl | rfl | rfl | rfl | rfl
        · exact ((((f2.trans f3).trans f4).trans f6).trans e6).jd jd1
        · exact (((f3.trans f4).trans f6).trans e6).jd jd2
        · exact ((f4.trans f6).trans e6).jd jd3
        · exact (f6.trans e6).jd jd4
        · exact (fr6.trans e6).jd jd5
        · exact e6.jd jd6
      · exact f6.2.2.trans m4
    obtain ⟨⟨nn, env, h⟩, hL2, rfl, hi, x2, x5⟩ := loop_at hL (outer7 (L := g6.next) (j := j) (ds := [d1, d2, d3, d4, d5, d6]) _ rfl inv (by simp; rfl) (by simp; rfl) (by simp) (by simp))
    subst hL2
    simp only at hi x2 x5
    clear hL s1 s2 s3 s4 l1 l2 l3 l4 q1 q2 q3 q4 q5 q6 bd inv
    simp -implicitDefEqProofs (disch := omega) [x2, x5, hi.box, q34, qc, hv.cells1]
end Go.Proofs.Ytccajagfgdchlaa.Kp
