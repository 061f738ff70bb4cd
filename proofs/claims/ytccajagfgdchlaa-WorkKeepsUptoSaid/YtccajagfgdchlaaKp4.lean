import Derived.Test.YtccajagfgdchlaaKp1
set_option linter.unusedSimpArgs false
set_option linter.unusedVariables false
namespace Go.Proofs.Ytccajagfgdchlaa.Kp
open Vai
set_option maxHeartbeats 0
def Var4 (e : T) : Prop := ∃ (a : ByteArray) (k n : Int) (s : ByteArray), e = .agg [.str a, .int .i64 k, .int .i64 n, .str s]
/-- A job: its variables are nil, or stand in memory of their own. -/
def JD (h : H) (d : D) : Prop := (∃ j : Job, d = .t (jobN j)) ∨ ∃ (j : Job) (id : Nat) (es : List T), d = jobR j id es.length ∧ es.length * 48 ≤ 140737488355328 ∧ (∀ e ∈ es, Var4 e) ∧ id < h.next ∧ h.objs id = some (.row 58 4 (es.map .t))
def Fr (h h' : H) : Prop := h.next ≤ h'.next ∧ (∀ i, i < h.next → h'.objs i = h.objs i) ∧ h'.marks = h.marks
theorem Fr.push (h : H) (o : AObj) : Fr h (h.push o) := ⟨Nat.le_succ _, fun i hi => by simp [H.push, upd, show i ≠ h.next by omega], rfl⟩
theorem Fr.set {h g : H} {k : Nat} {o : AObj} (hf : Fr h g) (hk : h.next ≤ k) : Fr h (g.set k o) := ⟨hf.1, fun i hi => by simp [H.set, upd, show i ≠ k by omega]; exact hf.2.1 i hi, hf.2.2⟩
theorem Fr.then {h g : H} {o : AObj} (hf : Fr h g) : Fr h (g.push o) := ⟨Nat.le_succ_of_le hf.1, fun i hi => by have := hf.1; simp [H.push, upd, show i ≠ g.next by omega]; exact hf.2.1 i hi, hf.2.2⟩
theorem Fr.refl (h : H) : Fr h h := ⟨Nat.le_refl _, fun _ _ => rfl, rfl⟩
theorem Fr.trans {h g k : H} (a : Fr h g) (b : Fr g k) : Fr h k := ⟨Nat.le_trans a.1 b.1, fun i hi => (b.2.1 i (Nat.lt_of_lt_of_le hi a.1)).trans (a.2.1 i hi), b.2.2.trans a.2.2⟩
theorem Fr.jd {h h' : H} {d : D} (hf : Fr h h') (hd : JD h d) : JD h' d := by
  rcases hd with hd | ⟨j, id, es, h1, h0, h2, h3, h4⟩
  · exact .inl hd
  · exact .inr ⟨j, id, es, h1, h0, h2, Nat.lt_of_lt_of_le h3 hf.1, (hf.2.1 id h3).trans h4⟩
macro "fr" : tactic => `(tactic| (repeat (first | exact Fr.refl _ | exact Fr.push _ _ | refine Fr.set ?_ (by simp <;> omega) | refine Fr.then ?_)))
theorem IsVs.sl {es : List T} (hlen : es.length * 48 ≤ 140737488355328) (hv : ∀ e ∈ es, Var4 e) : IsSl (.slice es) := ⟨es, .mk, hlen, fun y hy => by obtain ⟨a, k, n, s, rfl⟩ := hv y hy; rfl⟩
theorem IsVs.nil : IsSl .nilSlice := ⟨[], .nil, by simp, fun y hy => by simp at hy⟩
theorem k56n (j : Job) (hv : j.vars = .nilSlice) (h : H) : call cx prim 56 [.t j.t] h = some (.t j.t, (h.push (.row 31 9 [.t j.t])).push (.row 31 9 [.t j.t])) := by
  obtain ⟨id, inst, node, undo, state, left, due, till, vars⟩ := j
  simp only at hv
  subst hv
  rw [call_run rfl Try.func56 ok56 nd56 rfl (Nat.le_of_ble_eq_true rfl) rfl rfl]
  simp -implicitDefEqProofs (disch := omega) [k53n (c := 56) _ rfl, md]
  simp only [H.push, H.set, H.mk.injEq, and_true]
  funext k
  simp only [upd]
  by_cases h0 : k = h.next
  · simp [h0]
  · by_cases h1 : k = h.next + 1
    · simp [h1]
    · simp [h0, h1]
theorem k22n (j : Job) (now len : Int) (hv : j.vars = .nilSlice) (h : H) (hm : h.marks = []) : ∃ d c h', call cx prim 22 [.t j.t, .t (.int .i64 now), .t (.int .i64 len)] h = some (.tup [d, .t (.int .i64 c)], h') ∧ JD h' d ∧ Fr h h' := by
  rw [call_run rfl Try.func22 ok22 nd22 rfl (Nat.le_of_ble_eq_true rfl) rfl rfl]
  have b1 := clk_bd now
  have b2 := spn_bd len
  have hs : IsSl j.vars := hv ▸ IsVs.nil
  have q56 := fun g (hg : g.marks = []) => keepT (cc := cx.at 22) (h := g) cb56 rfl (k56n j hv g)
  cases h1 : (sinceS j).2 with
  | false =>
    simp -implicitDefEqProofs (disch := first | omega | (simp only [push_marks, set_marks, hm]; done)) [hs.cells, hm, md, c54 (c := 22) j hs _ rfl, c55 (c := 22) j hs _ rfl, h1]
    exact ⟨_, _, _, ⟨⟨rfl, rfl⟩, rfl⟩, Or.inl ⟨zeroJob, rfl⟩, by fr⟩
  | true =>
    by_cases h2 : clk now < (sinceS j).1
    · simp -implicitDefEqProofs (disch := first | omega | (simp only [push_marks, set_marks, hm]; done)) [hs.cells, hm, md, c52 (c := 22) _ _ rfl, c54 (c := 22) j hs _ rfl, c55 (c := 22) j hs _ rfl, h1, h2]
      exact ⟨_, _, _, ⟨⟨rfl, rfl⟩, rfl⟩, Or.inl ⟨zeroJob, rfl⟩, by fr⟩
    · simp -implicitDefEqProofs (disch := first | omega | (simp only [push_marks, set_marks, hm]; done)) [hs.cells, hm, md, c52 (c := 22) _ _ rfl, c54 (c := 22) j hs _ rfl, c57 (c := 22) _ _ rfl, q56, h1, h2]
      exact ⟨_, _, _, ⟨⟨rfl, rfl⟩, rfl⟩, Or.inl ⟨⟨_, _, _, _, _, _, _, _, .nilSlice⟩, by rw [hv]⟩, by fr⟩
theorem k30n (j : Job) (now : Int) (hv : j.vars = .nilSlice) (h : H) (hm : h.marks = []) : ∃ d c h', call cx prim 30 [.t j.t, .t (.int .i64 now)] h = some (.tup [d, .t (.int .i64 c)], h') ∧ JD h' d ∧ Fr h h' := by
  rw [call_run rfl Try.func30 ok30 nd30 rfl (Nat.le_of_ble_eq_true rfl) rfl rfl]
  have hs : IsSl j.vars := hv ▸ IsVs.nil
  have q56 := fun g (hg : g.marks = []) => keepT (cc := cx.at 30) (h := g) cb56 rfl (k56n j hv g)
  cases h1 : hadS j now with
  | false =>
    simp -implicitDefEqProofs (disch := first | omega | (simp only [push_marks, set_marks, hm]; done)) [hs.cells, hm, md, c58 (c := 30) j now hs _ rfl, c55 (c := 30) j hs _ rfl, h1]
    exact ⟨_, _, _, ⟨⟨rfl, rfl⟩, rfl⟩, Or.inl ⟨zeroJob, rfl⟩, by fr⟩
  | true =>
    simp -implicitDefEqProofs (disch := first | omega | (simp only [push_marks, set_marks, hm]; done)) [hs.cells, hm, md, c58 (c := 30) j now hs _ rfl, q56, h1]
    exact ⟨_, _, _, ⟨⟨rfl, rfl⟩, rfl⟩, Or.inl ⟨⟨_, _, _, _, _, _, _, _, .nilSlice⟩, by rw [hv]⟩, by fr⟩
theorem k23n (j : Job) (now all backoff : Int) (hv : j.vars = .nilSlice) (h : H) (hm : h.marks = []) : ∃ d c h', call cx prim 23 [.t j.t, .t (.int .i64 now), .t (.int .i64 all), .t (.int .i64 backoff)] h = some (.tup [d, .t (.int .i64 c)], h') ∧ JD h' d ∧ Fr h h' := by
  rw [call_run rfl Try.func23 ok23 nd23 rfl (Nat.le_of_ble_eq_true rfl) rfl rfl]
  have hs : IsSl j.vars := hv ▸ IsVs.nil
  have q56 := fun g (hg : g.marks = []) => keepT (cc := cx.at 23) (h := g) cb56 rfl (k56n j hv g)
  have b4 := leftS_bd j
  have b5 := leftS_eq j
  have w1 : IntKind.i64.wrap (leftS j) = leftS j := wrap_i64 (by omega) (by omega)
  cases h1 : hadS j now with
  | false =>
    simp -implicitDefEqProofs (disch := first | omega | (simp only [push_marks, set_marks, hm]; done)) [hs.cells, hm, md, c58 (c := 23) j now hs _ rfl, c55 (c := 23) j hs _ rfl, h1]
    exact ⟨_, _, _, ⟨⟨rfl, rfl⟩, rfl⟩, Or.inl ⟨zeroJob, rfl⟩, by fr⟩
  | true =>
    by_cases h2 : 0 < leftS j
    · simp -implicitDefEqProofs (disch := first | omega | (simp only [push_marks, set_marks, hm]; done)) [hs.cells, hm, md, c58 (c := 23) j now hs _ rfl, c51 (c := 23) _ _ rfl, c52 (c := 23) _ _ rfl, c57 (c := 23) _ _ rfl, q56, h1, h2, b5, w1]
      exact ⟨_, _, _, ⟨⟨rfl, rfl⟩, rfl⟩, Or.inl ⟨⟨_, _, _, _, _, _, _, _, .nilSlice⟩, by rw [hv]⟩, by fr⟩
    · have h3 : leftS j = 0 := by omega
      rw [h3] at w1 b5
      simp -implicitDefEqProofs (disch := first | omega | (simp only [push_marks, set_marks, hm]; done)) [hs.cells, hm, md, c58 (c := 23) j now hs _ rfl, c51 (c := 23) _ _ rfl, c52 (c := 23) _ _ rfl, c57 (c := 23) _ _ rfl, q56, h1, h3, b5, w1]
      exact ⟨_, _, _, ⟨⟨rfl, rfl⟩, rfl⟩, Or.inl ⟨⟨_, _, _, _, _, _, _, _, .nilSlice⟩, by rw [hv]⟩, by fr⟩
theorem k31n (j : Job) (now all : Int) (hv : j.vars = .nilSlice) (h : H) (hm : h.marks = []) : ∃ d c h', call cx prim 31 [.t j.t, .t (.int .i64 now), .t (.int .i64 all)] h = some (.tup [d, .t (.int .i64 c)], h') ∧ JD h' d ∧ Fr h h' := by
  rw [call_run rfl Try.func31 ok31 nd31 rfl (Nat.le_of_ble_eq_true rfl) rfl rfl]
  have hs : IsSl j.vars := hv ▸ IsVs.nil
  by_cases h1 : j.state = 4
  · obtain ⟨id, inst, node, undo, state, left, due, till, vars⟩ := j
    simp only at h1 hv
    subst h1
    have q56 := fun g (hg : g.marks = []) => keepT (cc := cx.at 31) (h := g) cb56 rfl (k56n ⟨id, inst, node, undo, 4, left, due, till, vars⟩ hv g)
    simp -implicitDefEqProofs (disch := first | omega | (simp only [push_marks, set_marks, hm]; done)) [hs.cells, hm, md, c51 (c := 31) _ _ rfl, c52 (c := 31) _ _ rfl, q56]
    exact ⟨_, _, _, ⟨⟨rfl, rfl⟩, rfl⟩, Or.inl ⟨⟨_, _, _, _, _, _, _, _, .nilSlice⟩, by rw [hv]⟩, by fr⟩
  by_cases h2 : j.state = 3
  · simp -implicitDefEqProofs (disch := first | omega | (simp only [push_marks, set_marks, hm]; done)) [hs.cells, hm, md, h2]
    exact ⟨_, _, _, ⟨⟨rfl, rfl⟩, rfl⟩, Or.inl ⟨zeroJob, rfl⟩, by fr⟩
  · simp -implicitDefEqProofs (disch := first | omega | (simp only [push_marks, set_marks, hm]; done)) [hs.cells, hm, md, h1, h2]
    exact ⟨_, _, _, ⟨⟨rfl, rfl⟩, rfl⟩, Or.inl ⟨zeroJob, rfl⟩, by fr⟩
theorem k32n (j : Job) (hv : j.vars = .nilSlice) (h : H) (hm : h.marks = []) : ∃ d h', call cx prim 32 [.t j.t] h = some (d, h') ∧ JD h' d ∧ Fr h h' := by
  rw [call_run rfl Try.func32 ok32 nd32 rfl (Nat.le_of_ble_eq_true rfl) rfl rfl]
  have hs : IsSl j.vars := hv ▸ IsVs.nil
  obtain ⟨id, inst, node, undo, state, left, due, till, vars⟩ := j
  have q56 := fun st g (hg : g.marks = []) => keepT (cc := cx.at 32) (h := g) cb56 rfl (k56n ⟨id, inst, node, undo, st, left, due, till, vars⟩ hv g)
  simp only at hv hs
  by_cases h1 : state = 1
  · subst h1
    simp -implicitDefEqProofs (disch := first | omega | (simp only [push_marks, set_marks, hm]; done)) [hs.cells, hm, md, q56]
    exact ⟨_, _, ⟨rfl, rfl⟩, Or.inl ⟨⟨_, _, _, _, _, _, _, _, .nilSlice⟩, by rw [hv]⟩, by fr⟩
  by_cases h2 : state = 2
  · subst h2
    simp -implicitDefEqProofs (disch := first | omega | (simp only [push_marks, set_marks, hm]; done)) [hs.cells, hm, md, q56]
    exact ⟨_, _, ⟨rfl, rfl⟩, Or.inl ⟨⟨_, _, _, _, _, _, _, _, .nilSlice⟩, by rw [hv]⟩, by fr⟩
  by_cases h4 : state = 4
  · subst h4
    simp -implicitDefEqProofs (disch := first | omega | (simp only [push_marks, set_marks, hm]; done)) [hs.cells, hm, md, q56]
    exact ⟨_, _, ⟨rfl, rfl⟩, Or.inl ⟨⟨_, _, _, _, _, _, _, _, .nilSlice⟩, by rw [hv]⟩, by fr⟩
  · simp -implicitDefEqProofs (disch := first | omega | (simp only [push_marks, set_marks, hm]; done)) [hs.cells, hm, md, q56, h1, h2, h4]
    exact ⟨_, _, ⟨rfl, rfl⟩, Or.inl ⟨⟨_, _, _, _, _, _, _, _, .nilSlice⟩, by rw [hv]⟩, by fr⟩
theorem k21n (id inst : Int) (node : ByteArray) (undo : Bool) (left now : Int) (h : H) (hm : h.marks = []) : ∃ d h', call cx prim 21 [.t (.int .i64 id), .t (.int .i64 inst), .t (.str node), .t (.bool undo), .t .nilSlice, .t (.int .i64 left), .t (.int .i64 now)] h = some (d, h') ∧ JD h' d ∧ Fr h h' := by
  rw [call_run rfl Try.func21 ok21 nd21 rfl (Nat.le_of_ble_eq_true rfl) rfl rfl]
  simp -implicitDefEqProofs (disch := first | omega | (simp only [push_marks, set_marks, hm]; done)) [hm, md, brow, c51 (c := 21) _ _ rfl, c52 (c := 21) _ _ rfl, k53n (c := 21) _ rfl]
  exact ⟨_, _, ⟨rfl, rfl⟩, Or.inl ⟨⟨_, _, _, _, _, _, _, _, .nilSlice⟩, rfl⟩, by fr⟩
set_option linter.unusedSectionVars false
section
variable {es : List T} (hlen : es.length * 48 ≤ 140737488355328) (hes : ∀ e ∈ es, Var4 e)
include hlen hes
theorem es_cells : ∀ y ∈ es, y.cells.length = 4 := fun y hy => by obtain ⟨a, k, n, s, rfl⟩ := hes y hy; rfl
theorem k22r (j : Job) (now len : Int) (hv : j.vars = .slice es) (h : H) (hm : h.marks = []) : ∃ d c h', call cx prim 22 [.t j.t, .t (.int .i64 now), .t (.int .i64 len)] h = some (.tup [d, .t (.int .i64 c)], h') ∧ JD h' d ∧ Fr h h' := by
  rw [call_run rfl Try.func22 ok22 nd22 rfl (Nat.le_of_ble_eq_true rfl) rfl rfl]
  have b1 := clk_bd now
  have b2 := spn_bd len
  have hs : IsSl j.vars := hv ▸ IsVs.sl hlen hes
  have q56 := fun g (hg : g.marks = []) => keepT (cc := cx.at 22) (h := g) cb56 rfl (k56 j hv hlen (es_cells hlen hes) g hg)
  cases h1 : (sinceS j).2 with
  | false =>
    simp -implicitDefEqProofs (disch := first | omega | (simp only [push_marks, set_marks, hm]; done)) [hs.cells, hm, md, c54 (c := 22) j hs _ rfl, c55 (c := 22) j hs _ rfl, h1]
    exact ⟨_, _, _, ⟨⟨rfl, rfl⟩, rfl⟩, Or.inl ⟨zeroJob, rfl⟩, by fr⟩
  | true =>
    by_cases h2 : clk now < (sinceS j).1
    · simp -implicitDefEqProofs (disch := first | omega | (simp only [push_marks, set_marks, hm]; done)) [hs.cells, hm, md, c52 (c := 22) _ _ rfl, c54 (c := 22) j hs _ rfl, c55 (c := 22) j hs _ rfl, h1, h2]
      exact ⟨_, _, _, ⟨⟨rfl, rfl⟩, rfl⟩, Or.inl ⟨zeroJob, rfl⟩, by fr⟩
    · simp -implicitDefEqProofs (disch := first | omega | (simp only [push_marks, set_marks, hm]; done)) [hs.cells, hm, md, c52 (c := 22) _ _ rfl, c54 (c := 22) j hs _ rfl, c57 (c := 22) _ _ rfl, q56, h1, h2]
      exact ⟨_, _, _, ⟨⟨rfl, rfl⟩, rfl⟩, Or.inr ⟨⟨_, _, _, _, _, _, _, _, .nilSlice⟩, _, es, rfl, hlen, hes, by simp <;> omega, by simp⟩, by fr⟩
theorem k30r (j : Job) (now : Int) (hv : j.vars = .slice es) (h : H) (hm : h.marks = []) : ∃ d c h', call cx prim 30 [.t j.t, .t (.int .i64 now)] h = some (.tup [d, .t (.int .i64 c)], h') ∧ JD h' d ∧ Fr h h' := by
  rw [call_run rfl Try.func30 ok30 nd30 rfl (Nat.le_of_ble_eq_true rfl) rfl rfl]
  have hs : IsSl j.vars := hv ▸ IsVs.sl hlen hes
  have q56 := fun g (hg : g.marks = []) => keepT (cc := cx.at 30) (h := g) cb56 rfl (k56 j hv hlen (es_cells hlen hes) g hg)
  cases h1 : hadS j now with
  | false =>
    simp -implicitDefEqProofs (disch := first | omega | (simp only [push_marks, set_marks, hm]; done)) [hs.cells, hm, md, c58 (c := 30) j now hs _ rfl, c55 (c := 30) j hs _ rfl, h1]
    exact ⟨_, _, _, ⟨⟨rfl, rfl⟩, rfl⟩, Or.inl ⟨zeroJob, rfl⟩, by fr⟩
  | true =>
    simp -implicitDefEqProofs (disch := first | omega | (simp only [push_marks, set_marks, hm]; done)) [hs.cells, hm, md, c58 (c := 30) j now hs _ rfl, q56, h1]
    exact ⟨_, _, _, ⟨⟨rfl, rfl⟩, rfl⟩, Or.inr ⟨⟨_, _, _, _, _, _, _, _, .nilSlice⟩, _, es, rfl, hlen, hes, by simp <;> omega, by simp⟩, by fr⟩
theorem k23r (j : Job) (now all backoff : Int) (hv : j.vars = .slice es) (h : H) (hm : h.marks = []) : ∃ d c h', call cx prim 23 [.t j.t, .t (.int .i64 now), .t (.int .i64 all), .t (.int .i64 backoff)] h = some (.tup [d, .t (.int .i64 c)], h') ∧ JD h' d ∧ Fr h h' := by
  rw [call_run rfl Try.func23 ok23 nd23 rfl (Nat.le_of_ble_eq_true rfl) rfl rfl]
  have hs : IsSl j.vars := hv ▸ IsVs.sl hlen hes
  have q56 := fun g (hg : g.marks = []) => keepT (cc := cx.at 23) (h := g) cb56 rfl (k56 j hv hlen (es_cells hlen hes) g hg)
  have b4 := leftS_bd j
  have b5 := leftS_eq j
  have w1 : IntKind.i64.wrap (leftS j) = leftS j := wrap_i64 (by omega) (by omega)
  cases h1 : hadS j now with
  | false =>
    simp -implicitDefEqProofs (disch := first | omega | (simp only [push_marks, set_marks, hm]; done)) [hs.cells, hm, md, c58 (c := 23) j now hs _ rfl, c55 (c := 23) j hs _ rfl, h1]
    exact ⟨_, _, _, ⟨⟨rfl, rfl⟩, rfl⟩, Or.inl ⟨zeroJob, rfl⟩, by fr⟩
  | true =>
    by_cases h2 : 0 < leftS j
    · simp -implicitDefEqProofs (disch := first | omega | (simp only [push_marks, set_marks, hm]; done)) [hs.cells, hm, md, c58 (c := 23) j now hs _ rfl, c51 (c := 23) _ _ rfl, c52 (c := 23) _ _ rfl, c57 (c := 23) _ _ rfl, q56, h1, h2, b5, w1]
      exact ⟨_, _, _, ⟨⟨rfl, rfl⟩, rfl⟩, Or.inr ⟨⟨_, _, _, _, _, _, _, _, .nilSlice⟩, _, es, rfl, hlen, hes, by simp <;> omega, by simp⟩, by fr⟩
    · have h3 : leftS j = 0 := by omega
      rw [h3] at w1 b5
      simp -implicitDefEqProofs (disch := first | omega | (simp only [push_marks, set_marks, hm]; done)) [hs.cells, hm, md, c58 (c := 23) j now hs _ rfl, c51 (c := 23) _ _ rfl, c52 (c := 23) _ _ rfl, c57 (c := 23) _ _ rfl, q56, h1, h3, b5, w1]
      exact ⟨_, _, _, ⟨⟨rfl, rfl⟩, rfl⟩, Or.inr ⟨⟨_, _, _, _, _, _, _, _, .nilSlice⟩, _, es, rfl, hlen, hes, by simp <;> omega, by simp⟩, by fr⟩
theorem k31r (j : Job) (now all : Int) (hv : j.vars = .slice es) (h : H) (hm : h.marks = []) : ∃ d c h', call cx prim 31 [.t j.t, .t (.int .i64 now), .t (.int .i64 all)] h = some (.tup [d, .t (.int .i64 c)], h') ∧ JD h' d ∧ Fr h h' := by
  rw [call_run rfl Try.func31 ok31 nd31 rfl (Nat.le_of_ble_eq_true rfl) rfl rfl]
  have hs : IsSl j.vars := hv ▸ IsVs.sl hlen hes
  by_cases h1 : j.state = 4
  · obtain ⟨id, inst, node, undo, state, left, due, till, vars⟩ := j
    simp only at h1 hv
    subst h1
    have q56 := fun g (hg : g.marks = []) => keepT (cc := cx.at 31) (h := g) cb56 rfl (k56 ⟨id, inst, node, undo, 4, left, due, till, vars⟩ hv hlen (es_cells hlen hes) g hg)
    simp -implicitDefEqProofs (disch := first | omega | (simp only [push_marks, set_marks, hm]; done)) [hs.cells, hm, md, c51 (c := 31) _ _ rfl, c52 (c := 31) _ _ rfl, q56]
    exact ⟨_, _, _, ⟨⟨rfl, rfl⟩, rfl⟩, Or.inr ⟨⟨_, _, _, _, _, _, _, _, .nilSlice⟩, _, es, rfl, hlen, hes, by simp <;> omega, by simp⟩, by fr⟩
  by_cases h2 : j.state = 3
  · simp -implicitDefEqProofs (disch := first | omega | (simp only [push_marks, set_marks, hm]; done)) [hs.cells, hm, md, h2]
    exact ⟨_, _, _, ⟨⟨rfl, rfl⟩, rfl⟩, Or.inl ⟨zeroJob, rfl⟩, by fr⟩
  · simp -implicitDefEqProofs (disch := first | omega | (simp only [push_marks, set_marks, hm]; done)) [hs.cells, hm, md, h1, h2]
    exact ⟨_, _, _, ⟨⟨rfl, rfl⟩, rfl⟩, Or.inl ⟨zeroJob, rfl⟩, by fr⟩
theorem k32r (j : Job) (hv : j.vars = .slice es) (h : H) (hm : h.marks = []) : ∃ d h', call cx prim 32 [.t j.t] h = some (d, h') ∧ JD h' d ∧ Fr h h' := by
  rw [call_run rfl Try.func32 ok32 nd32 rfl (Nat.le_of_ble_eq_true rfl) rfl rfl]
  have hs : IsSl j.vars := hv ▸ IsVs.sl hlen hes
  obtain ⟨id, inst, node, undo, state, left, due, till, vars⟩ := j
  have q56 := fun st g (hg : g.marks = []) => keepT (cc := cx.at 32) (h := g) cb56 rfl (k56 ⟨id, inst, node, undo, st, left, due, till, vars⟩ hv hlen (es_cells hlen hes) g hg)
  simp only at hv hs
  by_cases h1 : state = 1
  · subst h1
    simp -implicitDefEqProofs (disch := first | omega | (simp only [push_marks, set_marks, hm]; done)) [hs.cells, hm, md, q56]
    exact ⟨_, _, ⟨rfl, rfl⟩, Or.inr ⟨⟨_, _, _, _, _, _, _, _, .nilSlice⟩, _, es, rfl, hlen, hes, by simp <;> omega, by simp⟩, by fr⟩
  by_cases h2 : state = 2
  · subst h2
    simp -implicitDefEqProofs (disch := first | omega | (simp only [push_marks, set_marks, hm]; done)) [hs.cells, hm, md, q56]
    exact ⟨_, _, ⟨rfl, rfl⟩, Or.inr ⟨⟨_, _, _, _, _, _, _, _, .nilSlice⟩, _, es, rfl, hlen, hes, by simp <;> omega, by simp⟩, by fr⟩
  by_cases h4 : state = 4
  · subst h4
    simp -implicitDefEqProofs (disch := first | omega | (simp only [push_marks, set_marks, hm]; done)) [hs.cells, hm, md, q56]
    exact ⟨_, _, ⟨rfl, rfl⟩, Or.inr ⟨⟨_, _, _, _, _, _, _, _, .nilSlice⟩, _, es, rfl, hlen, hes, by simp <;> omega, by simp⟩, by fr⟩
  · simp -implicitDefEqProofs (disch := first | omega | (simp only [push_marks, set_marks, hm]; done)) [hs.cells, hm, md, q56, h1, h2, h4]
    exact ⟨_, _, ⟨rfl, rfl⟩, Or.inr ⟨⟨_, _, _, _, _, _, _, _, .nilSlice⟩, _, es, rfl, hlen, hes, by simp <;> omega, by simp⟩, by fr⟩
theorem k21r (id inst : Int) (node : ByteArray) (undo : Bool) (left now : Int) (h : H) (hm : h.marks = []) : ∃ d h', call cx prim 21 [.t (.int .i64 id), .t (.int .i64 inst), .t (.str node), .t (.bool undo), .t (.slice es), .t (.int .i64 left), .t (.int .i64 now)] h = some (d, h') ∧ JD h' d ∧ Fr h h' := by
  rw [call_run rfl Try.func21 ok21 nd21 rfl (Nat.le_of_ble_eq_true rfl) rfl rfl]
  simp -implicitDefEqProofs (disch := first | omega | (simp only [push_marks, set_marks, hm]; done)) [hm, md, brow, c51 (c := 21) _ _ rfl, c52 (c := 21) _ _ rfl, k53 (c := 21) hlen (es_cells hlen hes) _ rfl]
  exact ⟨_, _, ⟨rfl, rfl⟩, Or.inr ⟨⟨_, _, _, _, _, _, _, _, .nilSlice⟩, _, es, rfl, hlen, hes, by simp <;> omega, by simp⟩, by fr⟩
end
end Go.Proofs.Ytccajagfgdchlaa.Kp
