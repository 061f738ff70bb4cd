import Derived.Test.YtlcbhhmnfmeoeaaDoorDL12
set_option linter.unusedSimpArgs false
set_option linter.unusedVariables false
set_option linter.unusedSectionVars false
namespace Go.Proofs.YtlcbhhmnfmeoeaaDoor
open Vai
set_option maxHeartbeats 0
def sameK (p : Bool) (a b : Tk) : Prop := a.kind = b.kind ∧ a.text = b.text ∧ a.n = b.n ∧ (p = true → a.pos = b.pos)
theorem s12 {l m : List Tk} {x y : T} {p : Bool} (hx : Slice x (l.map Tk.t)) (hy : Slice y (m.map Tk.t)) (hlen : l.length = m.length) (hl : l.length ≤ 1000000) (hs : ∀ (k : Nat) (a b : Tk), l[k]? = some a → m[k]? = some b → sameK p a b) :
    ∃ h', call cx prim 12 [.t x, .t y, .t (.bool p)] .empty = some (.t (.bool true), h') := by
  rw [call_run rfl Tryd.func12 ok12 nd12 rfl (Nat.le_of_ble_eq_true rfl) rfl rfl]
  have hlx := fun hh => hx.len (P := Tryd.prog) (t := 22) tk22 hh
  have hly := fun hh => hy.len (P := Tryd.prog) (t := 22) tk22 hh
  simp only [List.length_map] at hlx hly
  rw [← hlen] at hly
  simp -implicitDefEqProofs (disch := omega) [hlx, hly]
  generalize hLp : loopω (LB cx prim 12 Tryd.f12 0) _ = R
  obtain ⟨x', ⟨nn, env, h2⟩, rfl, rfl, rfl⟩ := loop_uses hLp l.length
    (fun k st => st.n = 72 ∧ st.env 0 = .t x ∧ st.env 1 = .t y ∧ st.env 2 = .t (.bool p) ∧ st.env 7 = .t (.int .i64 k))
    (fun x st => st.n = 72 ∧ x = .exit 0)
    (by refine ⟨rfl, by simp, by simp, by simp, by simp⟩) (by
    rintro k ⟨nn, env, h2⟩ hk ⟨rfl, e0, e1, e2, e7⟩
    simp only at e0 e1 e2 e7
    rw [LB_run nd12 rfl]
    by_cases hk' : k < l.length
    · obtain ⟨a, ha⟩ : ∃ a, l[k]? = some a := ⟨l[k], by simp [hk']⟩
      obtain ⟨b, hb⟩ : ∃ b, m[k]? = some b := ⟨m[k]'(by omega), by simp [show k < m.length by omega]⟩
      obtain ⟨k1, k2, k3, k4⟩ := hs k a b ha hb
      have hne : ∀ l : List Tk, k < l.length → l.map Tk.t ≠ [] := fun l hl e => by
        have := congrArg List.length e
        simp at this; subst this; simp at hl
      have hxe : x = .slice (l.map Tk.t) := hx.eq_of_ne (hne l hk')
      have hye : y = .slice (m.map Tk.t) := hy.eq_of_ne (hne m (by omega))
      subst hxe hye
      have ha' : (l.map Tk.t)[k]? = some a.t := by rw [List.getElem?_map, ha]; rfl
      have hb' : (m.map Tk.t)[k]? = some b.t := by rw [List.getElem?_map, hb]; rfl
      cases p with
      | true =>
        simp -implicitDefEqProofs (disch := omega) [-List.getElem?_map, hlx, hly, e0, e1, e2, e7, ha', hb', Tk.t, k1, k2, k3, k4 rfl, Wp_some]
        exact hk'
      | false =>
        simp -implicitDefEqProofs (disch := omega) [-List.getElem?_map, hlx, hly, e0, e1, e2, e7, ha', hb', Tk.t, k1, k2, k3, Wp_some]
        exact hk'
    · obtain rfl : k = l.length := by omega
      simp -implicitDefEqProofs (disch := omega) [hlx, hly, e0, e1, e2, e7, Wp_some])
  simp -implicitDefEqProofs (disch := omega) []
theorem c12 {c : FuncId} {l m : List Tk} {p : Bool} (h : H) (hlen : l.length = m.length) (hl : l.length ≤ 1000000) (hs : ∀ (k : Nat) (a b : Tk), l[k]? = some a → m[k]? = some b → sameK p a b) (hm : md c 12 = .pure) {x y : D} {tx ty : T} (hsx : snap h x = some tx) (hx : Slice tx (l.map Tk.t)) (hsy : snap h y = some ty) (hy : Slice ty (m.map Tk.t)) :
    callD (cx.at c) (call cx prim) 12 [x, y, .t (.bool p)] h = some (.t (.bool true), h) := by
  obtain ⟨h', q⟩ := s12 hx hy hlen hl hs
  exact pureOut_flat (ts := [tx, ty, .bool p]) cb12 hm (by simp only [allM, hsx, hsy, snap_t]) q rfl rfl
end Go.Proofs.YtlcbhhmnfmeoeaaDoor
