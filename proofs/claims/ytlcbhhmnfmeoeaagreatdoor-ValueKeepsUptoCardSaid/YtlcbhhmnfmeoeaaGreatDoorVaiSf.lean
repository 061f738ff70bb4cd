import Derived.Test.YtlcbhhmnfmeoeaaGreatDoorVaiSe
set_option linter.unusedSimpArgs false
set_option linter.unusedVariables false
set_option linter.unusedSectionVars false
namespace Go.Proofs.YtlcbhhmnfmeoeaaGreatDoor
open Vai
set_option maxHeartbeats 0
def getW (vs : List WV) (nm : ByteArray) : Option WV := vs.find? fun v => eqS v.1 nm
def getT (vs : List WV) (nm : ByteArray) : T := match getW vs nm with | some v => valT v.2.1 v.2.2.1 v.2.2.2 | none => valT 0 0 ⟨#[]⟩
theorem find_drop {vs : List WV} {nm : ByteArray} {k : Nat} {v : WV} (hv : vs[k]? = some v) : (vs.drop k).find? (fun v => eqS v.1 nm) = if eqS v.1 nm = true then some v else (vs.drop (k + 1)).find? fun v => eqS v.1 nm := by
  have hlt : k < vs.length := by
    apply Classical.byContradiction
    intro hn
    rw [List.getElem?_eq_none (by omega)] at hv
    cases hv
  rw [List.drop_eq_getElem_cons hlt]
  rw [List.getElem?_eq_getElem hlt] at hv
  rw [Option.some.inj hv, List.find?_cons]
  cases eqS v.1 nm <;> rfl
abbrev zeroV : AObj := .row 23 3 [.t (valT 0 0 ⟨#[]⟩)]
theorem s21 {x : T} {vs : List WV} {nm : ByteArray} (hx : Slice x (vs.map varW)) (hs : vs.length ≤ 2000000) : ∃ h', call cx prim 21 [.t x, .t (.str nm)] .empty = some (.tup [.t (getT vs nm), .t (.bool (getW vs nm).isSome)], h') := by
  rw [call_run (cx := cx) rfl Tryz.func21 ok21 nd21 rfl (Nat.le_of_ble_eq_true rfl) rfl rfl]
  have hlx := fun hh => hx.len (P := Tryz.prog) (t := 31) tk31 hh
  rw [List.length_map] at hlx
  simp -implicitDefEqProofs (disch := omega) []
  generalize hLp : loopω _ _ = L
  obtain ⟨x', ⟨nn, env, h2⟩, rfl, rfl, hq⟩ := loop_uses hLp vs.length
    (fun k st => st.n = 26 ∧ st.env 0 = .t x ∧ st.env 1 = .t (.str nm) ∧ st.env 4 = .ptr 0 0 0 1 ∧ st.env 6 = .t (.int .i64 k) ∧ st.h = H.empty.push zeroV ∧ (vs.drop k).find? (fun v => eqS v.1 nm) = getW vs nm)
    (fun x' st => st.n = 26 ∧ st.env 4 = .ptr 0 0 0 1 ∧ ((x' = .exit 0 ∧ getW vs nm = none ∧ st.h = H.empty.push zeroV) ∨ (x' = .ret ∧ ∃ v, getW vs nm = some v ∧ st.env 5 = .t (.bool true) ∧ st.h = H.empty.push (.row 23 3 [.t (valT v.2.1 v.2.2.1 v.2.2.2)]))))
    (by refine ⟨rfl, ?_⟩; simp [getW]) (by
    rintro k ⟨nn, env, h2⟩ hk ⟨rfl, e0, e1, e4, e6, rfl, hb⟩
    simp only at e0 e1 e4 e6
    rw [LB_run nd21 rfl]
    by_cases hk' : k < vs.length
    · obtain ⟨v, hv⟩ : ∃ v, vs[k]? = some v := ⟨vs[k], by simp [hk']⟩
      have hxe : x = .slice (vs.map varW) := hx.eq_of_ne (by intro e; have := congrArg List.length e; simp at this; subst this; simp at hk')
      subst hxe
      have hg : (vs.map varW)[k]? = some (varW v) := by rw [List.getElem?_map, hv]; rfl
      have c1 : (k : Int) < vs.length := by omega
      rw [find_drop hv] at hb
      cases he : eqS v.1 nm with
      | true =>
        rw [he, if_pos rfl] at hb
        simp -implicitDefEqProofs (disch := omega) [-List.getElem?_map, e0, e1, e4, e6, hlx, hg, he, Wp_some]
        exact ⟨v.1, v.2.1, v.2.2.1, v.2.2.2, hb.symm, rfl⟩
      | false =>
        rw [he, if_neg (by simp)] at hb
        simp -implicitDefEqProofs (disch := omega) [-List.getElem?_map, e0, e1, e4, e6, hlx, hg, he, Wp_some]
        exact ⟨hk', hb⟩
    · obtain rfl : k = vs.length := by omega
      rw [List.drop_length] at hb
      simp -implicitDefEqProofs (disch := omega) [e0, e1, e4, e6, hlx, Wp_some]
      exact hb.symm)
  unfold getT
  rcases hq with ⟨e4, hq⟩
  rcases hq with ⟨rfl, hb, rfl⟩ | ⟨rfl, v, hb, e5, rfl⟩
  · simp only at e4
    rw [hb]
    simp -implicitDefEqProofs (disch := omega) [e4]
  · simp only at e4 e5
    rw [hb]
    simp -implicitDefEqProofs (disch := omega) [e4, e5]
end Go.Proofs.YtlcbhhmnfmeoeaaGreatDoor

namespace Go.Proofs.YtlcbhhmnfmeoeaaGreatDoor
open Vai
set_option maxHeartbeats 0
theorem s20 {x : T} {vs : List WV} {nm : ByteArray} (hx : Slice x (vs.map varW)) (hs : vs.length ≤ 2000000) : ∃ h', call cx prim 20 [.t x, .t (.str nm)] .empty = some (.tup [.t (getT vs nm), .t (.bool (getW vs nm).isSome)], h') := by
  rw [call_run (cx := cx) rfl Tryz.func20 ok20 nd20 rfl (Nat.le_of_ble_eq_true rfl) rfl rfl]
  have hlx := fun hh => hx.len (P := Tryz.prog) (t := 31) tk31 hh
  rw [List.length_map] at hlx
  simp -implicitDefEqProofs (disch := omega) [hlx]
  generalize hLp : loopω _ _ = L
  obtain ⟨x', ⟨nn, env, h2⟩, rfl, rfl, hq⟩ := loop_uses hLp vs.length
    (fun k st => st.n = 22 ∧ st.env 1 = .t (.str nm) ∧ st.env 4 = .ptr 0 0 0 1 ∧ st.env 8 = .t x ∧ st.env 9 = .t (.int .i64 vs.length) ∧ st.env 10 = .t (.int .i64 k) ∧ st.h.objs 0 = some zeroV ∧ 0 < st.h.next ∧ (vs.drop k).find? (fun v => eqS v.1 nm) = getW vs nm)
    (fun x' st => st.n = 22 ∧ st.env 4 = .ptr 0 0 0 1 ∧ ((x' = .exit 0 ∧ getW vs nm = none ∧ st.h.objs 0 = some zeroV) ∨ (x' = .ret ∧ ∃ v, getW vs nm = some v ∧ st.env 5 = .t (.bool true) ∧ st.h.objs 0 = some (.row 23 3 [.t (valT v.2.1 v.2.2.1 v.2.2.2)]))))
    (by refine ⟨rfl, ?_⟩; simp [getW]) (by
    rintro k ⟨nn, env, h2⟩ hk ⟨rfl, e1, e4, e8, e9, e10, ho, hn, hb⟩
    simp only at e1 e4 e8 e9 e10 ho hn
    rw [LB_run nd20 rfl]
    have n0 : ¬ (0 = h2.next) := by omega
    by_cases hk' : k < vs.length
    · obtain ⟨v, hv⟩ : ∃ v, vs[k]? = some v := ⟨vs[k], by simp [hk']⟩
      have hxe : x = .slice (vs.map varW) := hx.eq_of_ne (by intro e; have := congrArg List.length e; simp at this; subst this; simp at hk')
      subst hxe
      have hg : (vs.map varW)[k]? = some (varW v) := by rw [List.getElem?_map, hv]; rfl
      have c1 : (k : Int) < vs.length := by omega
      rw [find_drop hv] at hb
      cases he : eqS v.1 nm with
      | true =>
        rw [he, if_pos rfl] at hb
        simp -implicitDefEqProofs (disch := omega) [-List.getElem?_map, e1, e4, e8, e9, e10, ho, n0, hg, he, Wp_some]
        exact ⟨v.1, v.2.1, v.2.2.1, v.2.2.2, hb.symm, rfl, rfl, rfl⟩
      | false =>
        rw [he, if_neg (by simp)] at hb
        simp -implicitDefEqProofs (disch := omega) [-List.getElem?_map, e1, e4, e8, e9, e10, ho, n0, hg, he, Wp_some]
        refine ⟨hk', ?_⟩
        exact hb
    · obtain rfl : k = vs.length := by omega
      rw [List.drop_length] at hb
      simp -implicitDefEqProofs (disch := omega) [e1, e4, e8, e9, e10, ho, n0, Wp_some]
      exact hb.symm)
  unfold getT
  rcases hq with ⟨e4, hq⟩
  rcases hq with ⟨rfl, hb, ho⟩ | ⟨rfl, v, hb, e5, ho⟩
  · simp only at e4 ho
    rw [hb]
    simp -implicitDefEqProofs (disch := omega) [e4, ho]
  · simp only at e4 e5 ho
    rw [hb]
    simp -implicitDefEqProofs (disch := omega) [e4, e5, ho]
end Go.Proofs.YtlcbhhmnfmeoeaaGreatDoor

namespace Go.Proofs.YtlcbhhmnfmeoeaaGreatDoor
open Vai
set_option maxHeartbeats 0
theorem lv34 : leaves Tryz.prog 34 = some [.str, .int, .int, .str] := by kernel_rfl
theorem varW_inj {v w : WV} : varW v = varW w ↔ v = w := by
  obtain ⟨a, k, n, s⟩ := v
  obtain ⟨a', k', n', s'⟩ := w
  simp
theorem neq_var {v w : WV} (h : H) : binD Tryz.prog h .neq 34 (.t (varW v)) (.t (varW w)) = some (.t (.bool (!decide (v = w)))) := by
  obtain ⟨a, k, n, s⟩ := v
  obtain ⟨a', k', n', s'⟩ := w
  simp [binD, eqD, lv34, eqCells, eqCell, eqI, eqS]
theorem loop61 {x y : T} {vs ws : List (WV)} (hx : Slice x (vs.map varW)) (hy : Slice y (ws.map varW)) (hv : vs.length ≤ 2000000) (hl : vs.length = ws.length)
    (st : St) (sn : st.n = 26) (e0' : st.env 0 = .t x) (e1' : st.env 1 = .t y) (e5' : st.env 5 = .t (.int .i64 0)) :
    ∃ x' st', loopω (LB cx prim 24 Tryz.f24 0) st = some (x', st') ∧ st'.n = 26 ∧ ((x' = .exit 0 ∧ vs = ws) ∨ (x' = .ret ∧ vs ≠ ws ∧ st'.env 4 = .t (.bool false))) := by
  have hlx := fun hh => hx.len (P := Tryz.prog) (t := 31) tk31 hh
  rw [List.length_map] at hlx
  obtain ⟨x', st', hLp, h⟩ := loop_up (f := LB cx prim 24 Tryz.f24 0) (st := st) vs.length
    (fun k st => st.n = 26 ∧ vs.take k = ws.take k ∧ st.env 0 = .t x ∧ st.env 1 = .t y ∧ st.env 5 = .t (.int .i64 k))
    (fun x' st' => st'.n = 26 ∧ ((x' = .exit 0 ∧ vs = ws) ∨ (x' = .ret ∧ vs ≠ ws ∧ st'.env 4 = .t (.bool false))))
    ⟨sn, by simp, e0', e1', e5'⟩ (by
    clear e0' e1' e5'
    rintro k ⟨nn, env, h⟩ hk ⟨rfl, ht, e0, e1, e5⟩
    simp only at e0 e1 e5
    rw [LB_run nd24 rfl]
    by_cases hk' : k < vs.length
    · have hk2 : k < ws.length := by omega
      have hxe : x = .slice (vs.map varW) := hx.eq_of_ne (by intro e; have := congrArg List.length e; simp at this; subst this; simp at hk')
      have hye : y = .slice (ws.map varW) := hy.eq_of_ne (by intro e; have := congrArg List.length e; simp at this; subst this; simp at hk2)
      subst hxe hye
      obtain ⟨v, hv1⟩ : ∃ v, vs[k]? = some v := ⟨vs[k], by simp [hk']⟩
      obtain ⟨w, hw1⟩ : ∃ w, ws[k]? = some w := ⟨ws[k], by simp [hk2]⟩
      have g1 : (vs.map varW)[k]? = some (varW v) := by simp [hv1]
      have g2 : (ws.map varW)[k]? = some (varW w) := by simp [hw1]
      have hnext : vs.take (k + 1) = ws.take (k + 1) ↔ v = w := by
        rw [List.take_add_one, List.take_add_one, hv1, hw1, ht]
        simp
      by_cases he : v = w
      · simp -implicitDefEqProofs (disch := omega) [-bin_neq_tagg, e0, e1, e5, g1, g2, hk', neq_var, he, hnext]
      · have hne : vs ≠ ws := fun e => he (by rw [e] at hv1; exact Option.some.inj (hv1.symm.trans hw1))
        simp -implicitDefEqProofs (disch := omega) [-bin_neq_tagg, e0, e1, e5, g1, g2, hk', neq_var, he, hne]
    · obtain rfl : k = vs.length := by omega
      have he : vs = ws := by rw [List.take_length, hl, List.take_length] at ht; exact ht
      simp -implicitDefEqProofs (disch := omega) [e0, e1, e5, hlx, he])
  exact ⟨x', st', hLp, h⟩
theorem s24 {x y : T} {vs ws : List (WV)} (hx : Slice x (vs.map varW)) (hy : Slice y (ws.map varW)) (hv : vs.length ≤ 2000000) (hw : ws.length ≤ 2000000) :
    ∃ h', call cx prim 24 [.t x, .t y] .empty = some (.t (.bool (decide (vs = ws))), h') := by
  rw [call_run (cx := cx) rfl Tryz.func24 ok24 nd24 rfl (Nat.le_of_ble_eq_true rfl) rfl rfl]
  have hlx := fun hh => hx.len (P := Tryz.prog) (t := 31) tk31 hh
  have hly := fun hh => hy.len (P := Tryz.prog) (t := 31) tk31 hh
  rw [List.length_map] at hlx hly
  by_cases hl : vs.length = ws.length
  · simp -implicitDefEqProofs (disch := omega) [hlx, hly, hx.cells1, hy.cells1, hl]
    generalize hL : loopω (LB cx prim 24 Tryz.f24 0) _ = R
    obtain ⟨x', ⟨nn, env, g⟩, hL2, rfl, h⟩ := loop61 hx hy hv hl _ rfl (by simp) (by simp) (by simp) |>.imp fun x' q => q.imp fun st' q => (hL ▸ q : R = some (x', st') ∧ _)
    subst hL2
    rcases h with ⟨rfl, h⟩ | ⟨rfl, h, h4⟩
    · simp -implicitDefEqProofs [h]
    · simp only at h4
      simp -implicitDefEqProofs [h, h4]
  · have hne : vs ≠ ws := fun e => hl (by rw [e])
    simp -implicitDefEqProofs (disch := omega) [hlx, hly, hx.cells1, hy.cells1, hl, hne]
theorem c24 {c : FuncId} {x y : T} {vs ws : List (WV)} (hx : Slice x (vs.map varW)) (hy : Slice y (ws.map varW)) (hv : vs.length ≤ 2000000) (hw : ws.length ≤ 2000000) (h : H) (hm : md c 24 = .pure) :
    callD (cx.at c) (call cx prim) 24 [.t x, .t y] h = some (.t (.bool (decide (vs = ws))), h) := by
  obtain ⟨h', q⟩ := s24 hx hy hv hw
  exact pureT cb24 hm q rfl rfl
end Go.Proofs.YtlcbhhmnfmeoeaaGreatDoor

namespace Go.Proofs.YtlcbhhmnfmeoeaaGreatDoor
open Vai
set_option maxHeartbeats 0
abbrev DV := ByteArray × Int
abbrev decT (d : DV) : T := .agg [.str d.1, .int .i64 d.2]
def fit1 (v : WV) (d : DV) : Bool := eqS v.1 d.1 && (eqI v.2.1 d.2 && mayV v.2.1 v.2.2.1 v.2.2.2)
theorem s44 (v : WV) (d : DV) (hs : v.2.2.2.size ≤ 1000000000) : ∃ h', call cx prim 44 [.t (varW v), .t (decT d)] .empty = some (.t (.bool (fit1 v d)), h') := by
  rw [call_run (cx := cx) rfl Tryz.func44 ok44 nd44 rfl (Nat.le_of_ble_eq_true rfl) rfl rfl]
  have q13 := fun h => c13 (c := 44) v.2.1 v.2.2.1 v.2.2.2 h hs rfl
  unfold fit1
  cases h1 : eqS v.1 d.1 with
  | false => simp -implicitDefEqProofs (disch := omega) [h1]
  | true =>
    by_cases h2 : v.2.1 = d.2
    · rw [h2] at q13 ⊢
      simp -implicitDefEqProofs (disch := omega) [h1, h2, q13]
    · have e2 : eqI v.2.1 d.2 = false := eqI_false h2
      simp -implicitDefEqProofs (disch := omega) [h1, e2]
theorem c44 {c : FuncId} (v : WV) (d : DV) (h : H) (hs : v.2.2.2.size ≤ 1000000000) (hm : md c 44 = .pure) : callD (cx.at c) (call cx prim) 44 [.t (varW v), .t (decT d)] h = some (.t (.bool (fit1 v d)), h) := by
  obtain ⟨h', q⟩ := s44 v d hs
  exact pureT cb44 hm q rfl rfl
end Go.Proofs.YtlcbhhmnfmeoeaaGreatDoor

namespace Go.Proofs.YtlcbhhmnfmeoeaaGreatDoor
open Vai
set_option maxHeartbeats 0
def fitA (vs : List WV) (ds : List DV) (i : Nat) : Bool := if h : i < vs.length then (match vs[i]?, ds[i]? with | some v, some d => fit1 v d | _, _ => true) && fitA vs ds (i + 1) else true
termination_by vs.length - i
def fitB (vs : List WV) (ds : List DV) : Bool := decide (vs.length = ds.length) && fitA vs ds 0
theorem fitA_step {vs : List WV} {ds : List DV} {i : Nat} {v : WV} {d : DV} (hv : vs[i]? = some v) (hd : ds[i]? = some d) : fitA vs ds i = (fit1 v d && fitA vs ds (i + 1)) := by
  have h : i < vs.length := by
    apply Classical.byContradiction
    intro hn
    rw [List.getElem?_eq_none (by omega)] at hv
    cases hv
  rw [fitA, dif_pos h, hv, hd]
theorem fitA_over {vs : List WV} {ds : List DV} {i : Nat} (h : vs.length ≤ i) : fitA vs ds i = true := by rw [fitA, dif_neg (by omega)]
theorem s27 {x y : T} {vs : List WV} {ds : List DV} (hx : Slice x (vs.map varW)) (hy : Slice y (ds.map decT)) (hs : smallW vs) (hd : ds.length ≤ 2000000) : ∃ h', call cx prim 27 [.t x, .t y] .empty = some (.t (.bool (fitB vs ds)), h') := by
  rw [call_run (cx := cx) rfl Tryz.func27 ok27 nd27 rfl (Nat.le_of_ble_eq_true rfl) rfl rfl]
  have hlx := fun hh => hx.len (P := Tryz.prog) (t := 31) tk31 hh
  have hly := fun hh => hy.len (P := Tryz.prog) (t := 38) tk38 hh
  rw [List.length_map] at hlx hly
  have hs1 := hs.1
  unfold fitB
  by_cases hl : vs.length = ds.length
  case neg =>
    have e : eqI (vs.length : Int) ds.length = false := eqI_false (by omega)
    rw [decide_eq_false hl, Bool.false_and]
    simp -implicitDefEqProofs (disch := omega) [hlx, hly, e]
  rw [decide_eq_true hl, Bool.true_and]
  rw [← hl] at hly
  simp -implicitDefEqProofs (disch := omega) [hlx, hly]
  generalize hLp : loopω _ _ = L
  obtain ⟨x', ⟨nn, env, h2⟩, rfl, rfl, hq⟩ := loop_uses hLp vs.length
    (fun k st => st.n = 51 ∧ st.env 0 = .t x ∧ st.env 1 = .t y ∧ st.env 5 = .t (.int .i64 k) ∧ fitA vs ds k = fitA vs ds 0)
    (fun x' st => st.n = 51 ∧ ((x' = .exit 0 ∧ fitA vs ds 0 = true) ∨ (x' = .ret ∧ fitA vs ds 0 = false ∧ st.env 4 = .t (.bool false))))
    (by refine ⟨rfl, ?_⟩; simp) (by
    rintro k ⟨nn, env, h2⟩ hk ⟨rfl, e0, e1, e5, hb⟩
    simp only at e0 e1 e5
    rw [LB_run nd27 rfl]
    by_cases hk' : k < vs.length
    · obtain ⟨v, hv⟩ : ∃ v, vs[k]? = some v := ⟨vs[k], by simp [hk']⟩
      obtain ⟨d, hdd⟩ : ∃ d, ds[k]? = some d := ⟨ds[k]'(by omega), by simp [show k < ds.length by omega]⟩
      have hxe : x = .slice (vs.map varW) := hx.eq_of_ne (by intro e; have := congrArg List.length e; simp at this; subst this; simp at hk')
      have hye : y = .slice (ds.map decT) := hy.eq_of_ne (by intro e; have := congrArg List.length e; simp only [List.length_map, List.length_nil] at this; omega)
      subst hxe hye
      have hg : (vs.map varW)[k]? = some (varW v) := by rw [List.getElem?_map, hv]; rfl
      have hgd : (ds.map decT)[k]? = some (decT d) := by rw [List.getElem?_map, hdd]; rfl
      have hm := hs.2 v (List.mem_of_getElem? hv)
      have c1 : (k : Int) < vs.length := by omega
      have q15 := fun h => c15 (c := 27) v.2.1 v.2.2.1 v.2.2.2 h hm.2 rfl
      rw [fitA_step hv hdd] at hb
      unfold fit1 at hb
      cases h1 : eqS v.1 d.1 with
      | false =>
        rw [h1] at hb
        simp only [Bool.false_and] at hb
        simp -implicitDefEqProofs (disch := omega) [-List.getElem?_map, e0, e1, e5, hlx, hly, hg, hgd, h1, Wp_some]
        exact hb.symm
      | true =>
        rw [h1] at hb
        simp only [Bool.true_and] at hb
        by_cases h2 : v.2.1 = d.2
        · have e2 : eqI v.2.1 d.2 = true := by simp [eqI, h2]
          rw [e2] at hb
          simp only [Bool.true_and] at hb
          cases h3 : mayV v.2.1 v.2.2.1 v.2.2.2 with
          | false =>
            rw [h3] at hb q15
            simp only [Bool.false_and] at hb
            simp -implicitDefEqProofs (disch := omega) [-List.getElem?_map, e0, e1, e5, hlx, hly, hg, hgd, h1, e2, q15, Wp_some]
            exact hb.symm
          | true =>
            rw [h3] at hb q15
            simp only [Bool.true_and] at hb
            simp -implicitDefEqProofs (disch := omega) [-List.getElem?_map, e0, e1, e5, hlx, hly, hg, hgd, h1, e2, q15, Wp_some]
            exact ⟨hk', hb⟩
        · have e2 : eqI v.2.1 d.2 = false := eqI_false h2
          rw [e2] at hb
          simp only [Bool.false_and] at hb
          simp -implicitDefEqProofs (disch := omega) [-List.getElem?_map, e0, e1, e5, hlx, hly, hg, hgd, h1, e2, Wp_some]
          exact hb.symm
    · obtain rfl : k = vs.length := by omega
      rw [fitA_over (Nat.le_refl _)] at hb
      simp -implicitDefEqProofs (disch := omega) [e0, e1, e5, hlx, hly, Wp_some, ← hb])
  rcases hq with ⟨rfl, hb⟩ | ⟨rfl, hb, e4⟩
  · rw [hb]
    simp -implicitDefEqProofs (disch := omega) []
  · simp only at e4
    rw [hb]
    simp -implicitDefEqProofs (disch := omega) [e4]
end Go.Proofs.YtlcbhhmnfmeoeaaGreatDoor

namespace Go.Proofs.YtlcbhhmnfmeoeaaGreatDoor
open Vai
set_option maxHeartbeats 0
theorem s43 {x y : T} {vs : List WV} {ds : List DV} (hx : Slice x (vs.map varW)) (hy : Slice y (ds.map decT)) (hs : smallW vs) (hd : ds.length ≤ 2000000) (hl : vs.length = ds.length) : ∃ h', call cx prim 43 [.t x, .t y, .func (.func 44) [] []] .empty = some (.t (.bool (fitA vs ds 0)), h') := by
  rw [call_run (cx := cx) rfl Tryz.func43 ok43 nd43 rfl (Nat.le_of_ble_eq_true rfl) rfl rfl]
  have hlx := fun hh => hx.len (P := Tryz.prog) (t := 31) tk31 hh
  have hly := fun hh => hy.len (P := Tryz.prog) (t := 38) tk38 hh
  rw [List.length_map] at hlx hly
  have hs1 := hs.1
  rw [← hl] at hly
  simp -implicitDefEqProofs (disch := omega) [hlx, hly]
  generalize hLp : loopω _ _ = L
  obtain ⟨x', ⟨nn, env, h2⟩, rfl, rfl, hq⟩ := loop_uses hLp vs.length
    (fun k st => st.n = 32 ∧ st.env 1 = .t y ∧ st.env 2 = .func (.func 44) [] [] ∧ st.env 15 = .t x ∧ st.env 16 = .t (.int .i64 vs.length) ∧ st.env 17 = .t (.int .i64 k) ∧ fitA vs ds k = fitA vs ds 0)
    (fun x' st => st.n = 32 ∧ ((x' = .exit 0 ∧ fitA vs ds 0 = true) ∨ (x' = .ret ∧ fitA vs ds 0 = false ∧ st.env 6 = .t (.bool false))))
    (by refine ⟨rfl, ?_⟩; simp) (by
    rintro k ⟨nn, env, h2⟩ hk ⟨rfl, e1, e2, e15, e16, e17, hb⟩
    simp only at e1 e2 e15 e16 e17
    rw [LB_run nd43 rfl]
    by_cases hk' : k < vs.length
    · obtain ⟨v, hv⟩ : ∃ v, vs[k]? = some v := ⟨vs[k], by simp [hk']⟩
      obtain ⟨d, hdd⟩ : ∃ d, ds[k]? = some d := ⟨ds[k]'(by omega), by simp [show k < ds.length by omega]⟩
      have hxe : x = .slice (vs.map varW) := hx.eq_of_ne (by intro e; have := congrArg List.length e; simp at this; subst this; simp at hk')
      have hye : y = .slice (ds.map decT) := hy.eq_of_ne (by intro e; have := congrArg List.length e; simp only [List.length_map, List.length_nil] at this; omega)
      subst hxe hye
      have hg : (vs.map varW)[k]? = some (varW v) := by rw [List.getElem?_map, hv]; rfl
      have hgd : (ds.map decT)[k]? = some (decT d) := by rw [List.getElem?_map, hdd]; rfl
      have hm := hs.2 v (List.mem_of_getElem? hv)
      have c1 : (k : Int) < vs.length := by omega
      have q44 := fun h => c44 (c := 43) v d h hm.2 rfl
      rw [fitA_step hv hdd] at hb
      cases h1 : fit1 v d with
      | false =>
        rw [h1] at hb q44
        simp only [Bool.false_and] at hb
        simp -implicitDefEqProofs (disch := omega) [-List.getElem?_map, e1, e2, e15, e16, e17, hlx, hly, hg, hgd, q44, Wp_some]
        exact hb.symm
      | true =>
        rw [h1] at hb q44
        simp only [Bool.true_and] at hb
        simp -implicitDefEqProofs (disch := omega) [-List.getElem?_map, e1, e2, e15, e16, e17, hlx, hly, hg, hgd, q44, Wp_some]
        exact ⟨hk', hb⟩
    · obtain rfl : k = vs.length := by omega
      rw [fitA_over (Nat.le_refl _)] at hb
      simp -implicitDefEqProofs (disch := omega) [e1, e2, e15, e16, e17, Wp_some, ← hb])
  rcases hq with ⟨rfl, hb⟩ | ⟨rfl, hb, e6⟩
  · rw [hb]
    simp -implicitDefEqProofs (disch := omega) []
  · simp only at e6
    rw [hb]
    simp -implicitDefEqProofs (disch := omega) [e6]
theorem s26 {x y : T} {vs : List WV} {ds : List DV} (hx : Slice x (vs.map varW)) (hy : Slice y (ds.map decT)) (hs : smallW vs) (hd : ds.length ≤ 2000000) : ∃ h', call cx prim 26 [.t x, .t y] .empty = some (.t (.bool (fitB vs ds)), h') := by
  rw [call_run (cx := cx) rfl Tryz.func26 ok26 nd26 rfl (Nat.le_of_ble_eq_true rfl) rfl rfl]
  have hlx := fun hh => hx.len (P := Tryz.prog) (t := 31) tk31 hh
  have hly := fun hh => hy.len (P := Tryz.prog) (t := 38) tk38 hh
  rw [List.length_map] at hlx hly
  have hs1 := hs.1
  unfold fitB
  by_cases hl : vs.length = ds.length
  · obtain ⟨h', q⟩ := s43 hx hy hs hd hl
    have q43 := keepT (cc := cx.at 26) cb43 (by simp [md]) q
    rw [decide_eq_true hl, Bool.true_and]
    rw [← hl] at hly
    simp -implicitDefEqProofs (disch := omega) [hlx, hly, q43]
  · have e : eqI (vs.length : Int) ds.length = false := eqI_false (by omega)
    rw [decide_eq_false hl, Bool.false_and]
    simp -implicitDefEqProofs (disch := omega) [hlx, hly, e]
end Go.Proofs.YtlcbhhmnfmeoeaaGreatDoor
