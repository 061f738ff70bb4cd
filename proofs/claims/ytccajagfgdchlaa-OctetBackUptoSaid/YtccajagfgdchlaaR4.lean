import Derived.Test.YtccajagfgdchlaaR3
set_option linter.unusedSimpArgs false
set_option linter.unusedVariables false
namespace Go.Proofs.Ytccajagfgdchlaa
open Vai
set_option maxHeartbeats 0
/-- The loop that reads them. -/
theorem loop8b {x : T} {fs : List Fld} {L B : List UInt8} {rid : Nat} {xb : T} (hx : Slice x (fs.map Fld.t)) (hlen : fs.length ≤ 1000) (hb : bulkF fs ≤ 1200000) (hxb : Slice xb (ub L)) (hL : L = encs fs ++ B) (hLl : L.length ≤ 4000000)
    (hn : ∀ f ∈ fs, -9223372036854775808 ≤ f.n ∧ f.n ≤ 9223372036854775807) {y : D}
    (st : St) (sn : st.n = 121) (sh : st.h.objs rid = some (rdO 87 xb (0 : Nat) false)) (e0 : st.env 0 = .t x) (e1 : st.env 1 = y) (e8 : st.env 8 = .ptr rid 0 0 1) (e9 : st.env 9 = .t (.int .i64 0)) :
    ∃ st', loopω (LB cx prim 8 Try.f8 3) st = some (.exit 3, st') ∧ st'.n = 121 ∧ st'.h.objs rid = some (rdO 87 xb (encs fs).length false) ∧ st'.env 0 = .t x ∧ st'.env 1 = y ∧ st'.env 8 = .ptr rid 0 0 1 := by
  have hlx := fun hh => hx.len (P := Try.prog) (t := 60) tk60 hh
  rw [List.length_map] at hlx
  obtain ⟨x', st', hLp, rfl, h⟩ := loop_up (f := LB cx prim 8 Try.f8 3) (st := st) fs.length
    (fun k st => st.n = 121 ∧ st.h.objs rid = some (rdO 87 xb (encs (fs.take k)).length false) ∧ st.env 0 = .t x ∧ st.env 1 = y ∧ st.env 8 = .ptr rid 0 0 1 ∧ st.env 9 = .t (.int .i64 k))
    (fun x' st => x' = .exit 3 ∧ st.n = 121 ∧ st.h.objs rid = some (rdO 87 xb (encs fs).length false) ∧ st.env 0 = .t x ∧ st.env 1 = y ∧ st.env 8 = .ptr rid 0 0 1)
    ⟨sn, by simpa [encs] using sh, e0, e1, e8, e9⟩ (by
    rintro k ⟨nn, env, h⟩ hk ⟨rfl, ho, e0, e1, e8, e9⟩
    simp only at ho e0 e1 e8 e9
    rw [LB_run nd8 rfl]
    by_cases hk' : k < fs.length
    · obtain ⟨f, hf⟩ : ∃ f, fs[k]? = some f := ⟨fs[k], by simp [hk']⟩
      have hxe : x = .slice (fs.map Fld.t) := hx.eq_of_ne (by intro e; have := congrArg List.length e; simp at this; subst this; simp at hk')
      subst hxe
      have hget : (fs.map Fld.t)[k]? = some f.t := by simp [hf]
      have hfb := bulkF_mem hf
      have hfn := hn f (List.mem_of_getElem? hf)
      have hsn : encs (fs.take (k + 1)) = encs (fs.take k) ++ f.enc := by rw [take_snoc hf, encs_snoc]
      have hsp : ∃ R, L = encs (fs.take k) ++ (f.enc ++ R) := by
        refine ⟨encs (fs.drop (k + 1)) ++ B, ?_⟩
        rw [hL]
        have e : encs fs = encs (fs.take (k + 1)) ++ encs (fs.drop (k + 1)) := by unfold encs; rw [← List.flatMap_append, List.take_append_drop]
        rw [e, hsn]
        simp
      obtain ⟨R, hR⟩ := hsp
      have hple : (encs (fs.take k)).length ≤ L.length := by rw [hR]; simp
      generalize hA : encs (fs.take k) = A at ho hsn hR hple
      rw [hsn]
      by_cases k1 : f.kind = 1
      · have he : f.enc = be8 f.n := by simp [Fld.enc, k1]
        have hI : intR L A.length false = (f.n, A.length + 8, false) := by rw [hR, he]; exact intR_enc A R f.n hfn.1 hfn.2
        have q := c26 (c := 8) ho hxb hLl hple
        rw [hI] at q
        have q37 := c37 (c := 8) (h := h.set rid (rdO 87 xb (A.length + 8) false)) (id := rid) (b := xb) (p := A.length + 8) (bad := false) (l := L) (by simp) hxb
        have hl8 : (A ++ f.enc).length = A.length + 8 := by rw [he]; simp [bek_len]
        rw [hl8]
        simp -implicitDefEqProofs (disch := omega) [e0, e1, e8, e9, hget, k1, q, q37, hk', md]
      · by_cases k2 : f.kind = 2
        · have he : f.enc = be8 f.s.size ++ f.s.data.toList := by simp [Fld.enc, k2]
          have hI : textR L A.length false = (f.s.data.toList, A.length + 8 + f.s.size, false) := by rw [hR, he, List.append_assoc]; exact textR_enc A R f.s (by omega)
          have q := c35 (c := 8) ho hxb hLl hple
          rw [hI] at q
          have q37 := c37 (c := 8) (h := h.set rid (rdO 87 xb (A.length + 8 + f.s.size) false)) (id := rid) (b := xb) (p := A.length + 8 + f.s.size) (bad := false) (l := L) (by simp) hxb
          have hl8 : (A ++ f.enc).length = A.length + 8 + f.s.size := by rw [he]; simp [bek_len]; omega
          rw [hl8]
          simp -implicitDefEqProofs (disch := omega) [e0, e1, e8, e9, hget, k2, q, q37, hk', md, ba_self]
        · have he : f.enc = [if f.x then 1 else 0] := by simp [Fld.enc, k1, k2]
          have hI : boolR L A.length false = (f.x, A.length + 1, false) := by rw [hR, he]; exact boolR_enc A R f.x
          have q := c36 (c := 8) ho hxb hLl hple
          rw [hI] at q
          have q37 := c37 (c := 8) (h := h.set rid (rdO 87 xb (A.length + 1) false)) (id := rid) (b := xb) (p := A.length + 1) (bad := false) (l := L) (by simp) hxb
          have hl8 : (A ++ f.enc).length = A.length + 1 := by rw [he]; simp
          rw [hl8]
          simp -implicitDefEqProofs (disch := omega) [e0, e1, e8, e9, hget, k1, k2, q, q37, hk', md]
    · obtain rfl : k = fs.length := by omega
      rw [List.take_length] at ho
      simp -implicitDefEqProofs (disch := omega) [e0, e1, e8, e9, hlx, ho])
  exact ⟨st', hLp, h⟩
end Go.Proofs.Ytccajagfgdchlaa
namespace Go.Proofs.Ytccajagfgdchlaa
open Vai
theorem law8 {x xb : T} {fs : List Fld} {B : List UInt8} (hx : Slice x (fs.map Fld.t)) (hb : bulkF fs ≤ 1200000) (hfl : fs.length ≤ 1200000) (hxb : Slice xb (ub B)) (hB : B.length ≤ 1200000)
    (hn : ∀ f ∈ fs, -9223372036854775808 ≤ f.n ∧ f.n ≤ 9223372036854775807) : ∃ h', call cx prim 8 [.t x, .t xb] .empty = some (.t (.bool true), h') := by
  rw [call_run rfl Try.func8 ok8 nd8 rfl (Nat.le_of_ble_eq_true rfl) rfl rfl]
  have hlx := fun hh => hx.len (P := Try.prog) (t := 60) tk60 hh
  rw [List.length_map] at hlx
  by_cases hlen : 1000 < fs.length
  · simp -implicitDefEqProofs (disch := omega) [hlx, c16 (c := 8) _ (by simp [md])]
  · have hL1 := encs_len fs
    have h1 := append_nil (P := Try.prog) (h := .empty) (t := 22) tk22 sz5 byt5 zero5 rfl (by decide) ((sl_slice (ub (encs fs))).source _) (ub_cells (encs fs)) (by simp [ub_len]; omega) (by simp [ub_len]; omega)
    have h2 := append_new (P := Try.prog) (h := .empty) (t := 22) (xs := ub (encs fs)) tk22 sz5 byt5 zero5 rfl (by decide) (hxb.source _) (ub_cells B) (by simp [ub_len]; omega) (by simp [ub_len]; omega)
    rw [← ub_append] at h2
    have hsl := sl_slice (ub (encs fs ++ B))
    have hLl : (encs fs ++ B).length ≤ 4000000 := by rw [List.length_append]; omega
    have q25 := c25 (c := 8) (d := (nrow 5 1 (ub (encs fs ++ B)) H.empty).1) (h := (nrow 5 1 (ub (encs fs ++ B)) H.empty).2) snap_new hsl (by omega)
    have hB' := fun hh => hxb.len (P := Try.prog) (t := 22) tk22 hh
    rw [ub_len] at hB'
    simp -implicitDefEqProofs (disch := omega) [hlx, c16 (c := 8) _ (by simp [md])]
    generalize hLa : loopω (LB cx prim 8 Try.f8 0) _ = La
    obtain ⟨⟨nn, env, h⟩, hLa2, rfl, rfl, e0, e1, e5⟩ := loop8a hx (by omega) hb _ rfl rfl (by simp) (by simp) (by simp) (y := .t xb) (by simp) |>.imp fun st' q => (hLa ▸ q : La = some (.exit 0, st') ∧ _)
    simp only at e0 e1 e5
    subst hLa2
    simp -implicitDefEqProofs (disch := omega) [e0, e1, e5, h1, h2, q25]
    generalize hLb : loopω (LB cx prim 8 Try.f8 3) _ = Lb
    obtain ⟨⟨nn, env2, h2'⟩, hLb2, rfl, ho, e0', e1', e8'⟩ := loop8b (rid := (nrow 5 1 (ub (encs fs ++ B)) H.empty).2.next) hx (by omega) hb hsl rfl hLl hn (y := .t xb) _ rfl (by simp) (by simp [e0]) (by simp [e1]) (by simp) (by simp) |>.imp fun st' q => (hLb ▸ q : Lb = some (.exit 3, st') ∧ _)
    simp only at ho e0' e1' e8'
    subst hLb2
    have hple : (encs fs).length ≤ (encs fs ++ B).length := by simp
    have q28 := c28 (c := 8) ho hsl hLl hple
    have q38 := c38 (c := 8) ho hsl
    have hlf : leftR (encs fs ++ B) (encs fs).length false = B.length := by simp [leftR]; omega
    have hdn : doneR (encs fs ++ B) (encs fs).length false = decide (B.length = 0) := by simp [doneR]
    rw [hlf] at q28
    rw [hdn] at q38
    generalize (nrow 5 1 (ub (encs fs ++ B)) H.empty).2.next = rid at q28 q38 e8'
    by_cases h0 : B.length = 0
    · simp -implicitDefEqProofs (disch := omega) [e0', e1', e8', q28, q38, hB', h0]
    · simp -implicitDefEqProofs (disch := omega) [e0', e1', e8', q28, q38, hB', h0]
end Go.Proofs.Ytccajagfgdchlaa
