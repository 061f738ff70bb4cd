import Derived.Test.YtccajagfgdchlaaR2
set_option linter.unusedSimpArgs false
set_option linter.unusedVariables false
namespace Go.Proofs.Ytccajagfgdchlaa
open Vai
set_option maxHeartbeats 0
abbrev opT (kn : Int × Int) : T := .agg [.int .i64 kn.1, .int .i64 kn.2]
theorem intR_le {l : List UInt8} {p : Nat} {bad : Bool} (hp : p ≤ l.length) : (intR l p bad).2.1 ≤ l.length := (intR_bd l p bad hp).2.2
theorem takeR_le {l : List UInt8} {p : Nat} {bad : Bool} {n : Int} (hp : p ≤ l.length) : (takeR l p bad n).2.1 ≤ l.length := by
  unfold takeR
  split
  · exact hp
  · rename_i h; simp only [not_or] at h; simp only; omega
theorem textR_le {l : List UInt8} {p : Nat} {bad : Bool} (hp : p ≤ l.length) : (textR l p bad).2.1 ≤ l.length := takeR_le (intR_le hp)
theorem boolR_le {l : List UInt8} {p : Nat} {bad : Bool} (hp : p ≤ l.length) : (boolR l p bad).2.1 ≤ l.length := by
  unfold boolR
  split
  · exact hp
  · rename_i h; simp only [not_or] at h; simp only; omega
theorem countR_le {l : List UInt8} {p : Nat} {bad : Bool} {n : Int} (hp : p ≤ l.length) : (countR l p bad n).2.1 ≤ l.length := by
  unfold countR
  have key : ∀ (c : Prop) [Decidable c] (a b : Int × Nat × Bool), a.2.1 ≤ l.length → b.2.1 ≤ l.length → (if c then a else b).2.1 ≤ l.length := by
    intro c _ a b h1 h2
    split
    · exact h1
    · exact h2
  exact key _ _ _ (intR_le (bad := bad) hp) (intR_le (bad := bad) hp)
/-- Both readers stand where the other one does. -/
def Both (l : List UInt8) (b : T) (h : H) : Prop := ∃ (p : Nat) (bad : Bool), p ≤ l.length ∧ h.objs 0 = some (rdO 87 b p bad) ∧ h.objs 1 = some (rdO 42 b p bad)
/-- One round: both readers do the same. -/
theorem loop9 {x b : T} {ops : List (Int × Int)} {l : List UInt8} (hx : Slice x (ops.map opT)) (hb : Slice b (ub l)) (hl : l.length ≤ 4000000) (hops : ops.length ≤ 4000000)
    (st : St) (sn : st.n = 96) (o0 : st.h.objs 0 = some (rdO 87 b (0 : Nat) false)) (o1 : st.h.objs 1 = some (rdO 42 b (0 : Nat) false)) (e1 : st.env 1 = .t x) (e5 : st.env 5 = .ptr 0 0 0 1) (e6 : st.env 6 = .ptr 1 0 0 1) (e7 : st.env 7 = .t (.int .i64 0)) :
    ∃ st', loopω (LB cx prim 9 Try.f9 0) st = some (.exit 0, st') ∧ st'.n = 96 := by
  have hlx := fun hh => hx.len (P := Try.prog) (t := 65) tk65 hh
  rw [List.length_map] at hlx
  obtain ⟨x', st', hLp, rfl, h⟩ := loop_up (f := LB cx prim 9 Try.f9 0) (st := st) ops.length
    (fun k st => st.n = 96 ∧ Both l b st.h ∧ st.env 1 = .t x ∧ st.env 5 = .ptr 0 0 0 1 ∧ st.env 6 = .ptr 1 0 0 1 ∧ st.env 7 = .t (.int .i64 k))
    (fun x' st => x' = .exit 0 ∧ st.n = 96)
    ⟨sn, ⟨0, false, Nat.zero_le _, o0, o1⟩, e1, e5, e6, e7⟩ (by
    rintro k ⟨nn, env, h⟩ hk ⟨rfl, ⟨p, bad, hp, o0, o1⟩, e1, e5, e6, e7⟩
    simp only at o0 o1 e1 e5 e6 e7
    rw [LB_run nd9 rfl]
    by_cases hk' : k < ops.length
    · obtain ⟨f, hf⟩ : ∃ f, ops[k]? = some f := ⟨ops[k], by simp [hk']⟩
      obtain ⟨kd, n⟩ := f
      have hxe : x = .slice (ops.map opT) := hx.eq_of_ne (by intro e; have := congrArg List.length e; simp at this; subst this; simp at hk')
      subst hxe
      have hget : (ops.map opT)[k]? = some (opT (kd, n)) := by simp [hf]
      -- what the round's end compares
      have tail : ∀ (h2 : H) (p2 : Nat) (b2 : Bool), p2 ≤ l.length → h2.objs 0 = some (rdO 87 b p2 b2) → h2.objs 1 = some (rdO 42 b p2 b2) →
          callD (cx.at 9) (call cx prim) 37 [.ptr 0 0 0 1] h2 = some (.t (.bool b2), h2) ∧ callD (cx.at 9) (call cx prim) 28 [.ptr 0 0 0 1] h2 = some (.t (.int .i64 (leftR l p2 b2)), h2) ∧ callD (cx.at 9) (call cx prim) 29 [.ptr 1 0 0 1] h2 = some (.t (.int .i64 (leftR l p2 b2)), h2) ∧
          callD (cx.at 9) (call cx prim) 38 [.ptr 0 0 0 1] h2 = some (.t (.bool (doneR l p2 b2)), h2) ∧ callD (cx.at 9) (call cx prim) 43 [.ptr 1 0 0 1] h2 = some (.t (.bool (doneR l p2 b2)), h2) :=
        fun h2 p2 b2 hp2 a0 a1 => ⟨c37 a0 hb, c28 a0 hb hl hp2, c29 a1 hb hl hp2, c38 a0 hb, c43 a1 hb⟩
      by_cases k1 : kd = 1
      · have q0 := c26 (c := 9) o0 hb hl hp
        have q1 := c27 (c := 9) (h := h.set 0 (rdO 87 b (intR l p bad).2.1 (intR l p bad).2.2)) (id := 1) (b := b) (p := p) (bad := bad) (l := l) (by simpa using o1) hb hl hp
        obtain ⟨t1, t2, t3, t4, t5⟩ := tail ((h.set 0 (rdO 87 b (intR l p bad).2.1 (intR l p bad).2.2)).set 1 (rdO 42 b (intR l p bad).2.1 (intR l p bad).2.2)) (intR l p bad).2.1 (intR l p bad).2.2 (intR_le (bad := bad) hp) (by simp) (by simp)
        simp -implicitDefEqProofs (disch := omega) [e1, e5, e6, e7, hget, k1, q0, q1, t1, t2, t3, t4, t5, hk', hb.cells1, md]
        exact ⟨(intR l p bad).2.1, (intR l p bad).2.2, intR_le (bad := bad) hp, by simp, by simp⟩
      by_cases k2 : kd = 2
      · have q0 := c35 (c := 9) o0 hb hl hp
        have q1 := c39 (c := 9) (h := h.set 0 (rdO 87 b (textR l p bad).2.1 (textR l p bad).2.2)) (id := 1) (b := b) (p := p) (bad := bad) (l := l) (by simpa using o1) hb hl hp
        obtain ⟨t1, t2, t3, t4, t5⟩ := tail ((h.set 0 (rdO 87 b (textR l p bad).2.1 (textR l p bad).2.2)).set 1 (rdO 42 b (textR l p bad).2.1 (textR l p bad).2.2)) (textR l p bad).2.1 (textR l p bad).2.2 (textR_le (bad := bad) hp) (by simp) (by simp)
        simp -implicitDefEqProofs (disch := omega) [e1, e5, e6, e7, hget, k2, q0, q1, t1, t2, t3, t4, t5, hk', hb.cells1, md]
        exact ⟨(textR l p bad).2.1, (textR l p bad).2.2, textR_le (bad := bad) hp, by simp, by simp⟩
      by_cases k3 : kd = 3
      · have q0 := c36 (c := 9) o0 hb hl hp
        have q1 := c40 (c := 9) (h := h.set 0 (rdO 87 b (boolR l p bad).2.1 (boolR l p bad).2.2)) (id := 1) (b := b) (p := p) (bad := bad) (l := l) (by simpa using o1) hb hl hp
        obtain ⟨t1, t2, t3, t4, t5⟩ := tail ((h.set 0 (rdO 87 b (boolR l p bad).2.1 (boolR l p bad).2.2)).set 1 (rdO 42 b (boolR l p bad).2.1 (boolR l p bad).2.2)) (boolR l p bad).2.1 (boolR l p bad).2.2 (boolR_le (bad := bad) hp) (by simp) (by simp)
        simp -implicitDefEqProofs (disch := omega) [e1, e5, e6, e7, hget, k3, q0, q1, t1, t2, t3, t4, t5, hk', hb.cells1, md]
        exact ⟨(boolR l p bad).2.1, (boolR l p bad).2.2, boolR_le (bad := bad) hp, by simp, by simp⟩
      by_cases k4 : kd = 4
      · have q0 := c41 (c := 9) (least := n) o0 hb hl hp
        have q1 := c42 (c := 9) (least := n) (h := h.set 0 (rdO 87 b (countR l p bad n).2.1 (countR l p bad n).2.2)) (id := 1) (b := b) (p := p) (bad := bad) (l := l) (by simpa using o1) hb hl hp
        obtain ⟨t1, t2, t3, t4, t5⟩ := tail ((h.set 0 (rdO 87 b (countR l p bad n).2.1 (countR l p bad n).2.2)).set 1 (rdO 42 b (countR l p bad n).2.1 (countR l p bad n).2.2)) (countR l p bad n).2.1 (countR l p bad n).2.2 (countR_le (bad := bad) hp) (by simp) (by simp)
        simp -implicitDefEqProofs (disch := omega) [e1, e5, e6, e7, hget, k4, q0, q1, t1, t2, t3, t4, t5, hk', hb.cells1, md]
        exact ⟨(countR l p bad n).2.1, (countR l p bad n).2.2, countR_le (bad := bad) hp, by simp, by simp⟩
      · obtain ⟨t1, t2, t3, t4, t5⟩ := tail h p bad hp o0 o1
        simp -implicitDefEqProofs (disch := omega) [e1, e5, e6, e7, hget, k1, k2, k3, k4, t1, t2, t3, t4, t5, hk', hb.cells1, o0, o1, md]
        exact ⟨_, _, hp, o0, o1⟩
    · obtain rfl : k = ops.length := by omega
      simp -implicitDefEqProofs (disch := omega) [e1, e5, e6, e7, hlx])
  exact ⟨st', hLp, h⟩
theorem law9 {x b : T} {ops : List (Int × Int)} {l : List UInt8} (hx : Slice x (ops.map opT)) (hb : Slice b (ub l)) (hl : l.length ≤ 4000000) (hops : ops.length ≤ 4000000) : ∃ h', call cx prim 9 [.t b, .t x] .empty = some (.t (.bool true), h') := by
  rw [call_run rfl Try.func9 ok9 nd9 rfl (Nat.le_of_ble_eq_true rfl) rfl rfl]
  have q25 := c25 (c := 9) (d := .t b) (h := .empty) (snap_t _ b) hb (by omega)
  simp -implicitDefEqProofs (disch := omega) [q25, c16 (c := 9) _ (by simp [md]), hb.cells1]
  generalize hL : loopω (LB cx prim 9 Try.f9 0) _ = L
  obtain ⟨⟨nn, env, h⟩, hL2, rfl⟩ := loop_at hL (loop9 hx hb hl hops _ rfl (by simp) (by simp) (by simp) (by simp) (by simp) (by simp))
  subst hL2
  simp -implicitDefEqProofs
end Go.Proofs.Ytccajagfgdchlaa
