import Derived.Test.YtccajagfgdchlaaVaiD
import Derived.Test.YtccajagfgdchlaaTryFn
set_option linter.unusedSimpArgs false
set_option linter.unusedVariables false
set_option linter.unusedSectionVars false
namespace Go.Proofs.Ytccajagfgdchlaa
open Vai
set_option maxHeartbeats 0
abbrev jobT (id inst : Int) (node : ByteArray) (undo : Bool) (state left due till : Int) (vars : T) : T := .agg [.int .i64 id, .int .i64 inst, .str node, .bool undo, .int .i64 state, .int .i64 left, .int .i64 due, .int .i64 till, vars]
structure Job where
  id : Int
  inst : Int
  node : ByteArray
  undo : Bool
  state : Int
  left : Int
  due : Int
  till : Int
  vars : T
abbrev Job.t (j : Job) : T := jobT j.id j.inst j.node j.undo j.state j.left j.due j.till j.vars
abbrev zeroJob : Job := ⟨0, 0, ⟨#[]⟩, false, 0, 0, 0, 0, .nilSlice⟩
/-- Nil, or a slice. -/
def IsSl (x : T) : Prop := ∃ es, Slice x es ∧ es.length * 48 ≤ 140737488355328 ∧ (∀ y ∈ es, y.cells.length = 4)
def clk (n : Int) : Int := if n < 0 then 0 else if n < 2199023255552 then n else 2199023255552
def spn (n : Int) : Int := if n < 0 then 0 else if n < 1099511627776 then n else 1099511627776
def trs (n : Int) : Int := if n < 1 then 1 else if n < 100 then n else 100
theorem s52 (n : Int) : call cx prim 52 [.t (.int .i64 n)] .empty = some (.t (.int .i64 (clk n)), .empty) := by
  rw [call_run rfl Try.func52 ok52 nd52 rfl (Nat.le_of_ble_eq_true rfl) rfl rfl]
  simp -implicitDefEqProofs
  unfold clk; split <;> split <;> omega
theorem c52 {c : FuncId} (n : Int) (h : H) (hm : md c 52 = .pure) : callD (cx.at c) (call cx prim) 52 [.t (.int .i64 n)] h = some (.t (.int .i64 (clk n)), h) := pureT cb52 hm (s52 n) rfl rfl
theorem s57 (n : Int) : call cx prim 57 [.t (.int .i64 n)] .empty = some (.t (.int .i64 (spn n)), .empty) := by
  rw [call_run rfl Try.func57 ok57 nd57 rfl (Nat.le_of_ble_eq_true rfl) rfl rfl]
  simp -implicitDefEqProofs
  unfold spn; split <;> split <;> omega
theorem c57 {c : FuncId} (n : Int) (h : H) (hm : md c 57 = .pure) : callD (cx.at c) (call cx prim) 57 [.t (.int .i64 n)] h = some (.t (.int .i64 (spn n)), h) := pureT cb57 hm (s57 n) rfl rfl
theorem s51 (n : Int) : call cx prim 51 [.t (.int .i64 n)] .empty = some (.t (.int .i64 (trs n)), .empty) := by
  rw [call_run rfl Try.func51 ok51 nd51 rfl (Nat.le_of_ble_eq_true rfl) rfl rfl]
  simp -implicitDefEqProofs
  unfold trs; split <;> split <;> omega
theorem c51 {c : FuncId} (n : Int) (h : H) (hm : md c 51 = .pure) : callD (cx.at c) (call cx prim) 51 [.t (.int .i64 n)] h = some (.t (.int .i64 (trs n)), h) := pureT cb51 hm (s51 n) rfl rfl
theorem IsSl.cells {x : T} (h : IsSl x) : x.cells = [x] := h.elim fun _ hx => hx.1.cells1
theorem c53 {c : FuncId} {x : T} (hx : IsSl x) (h : H) (hm : md c 53 = .pure) : callD (cx.at c) (call cx prim) 53 [.t x] h = some (.t x, h) := by
  obtain ⟨es, hes, hlen, hc⟩ := hx
  rcases hes with ⟨rfl, rfl⟩ | rfl
  · have : call cx prim 53 [.t .nilSlice] .empty = some (.t .nilSlice, .empty) := by
      rw [call_run rfl Try.func53 ok53 nd53 rfl (Nat.le_of_ble_eq_true rfl) rfl rfl]
      simp -implicitDefEqProofs [binD]
    exact pureT cb53 hm this rfl rfl
  · have : call cx prim 53 [.t (.slice es)] .empty = some (brow 58 4 es .empty) := by
      rw [call_run rfl Try.func53 ok53 nd53 rfl (Nat.le_of_ble_eq_true rfl) rfl rfl]
      have q1 := append_brow (P := Try.prog) (h := .empty) (t := 29) (x := .t (.slice es)) (xs := []) (ys := es) tk29 sz58 byt58 zero58 rfl (by decide) rfl (by simpa using hc) (by simp; omega) (by simp; omega)
      rw [List.nil_append] at q1
      simp [brow] at q1
      simp -implicitDefEqProofs [binD, nilD, buildSliceD, q1, brow]
    exact pureT cb53 hm this snapOut_brow rfl
abbrev sinceS (j : Job) : Int × Bool := if j.state = 1 then (j.due, true) else if j.state = 2 then (j.till, true) else (0, false)
theorem s74 (j : Job) {h : H} {id : Nat} (ho : h.objs id = some (.row 31 9 [.t j.t])) : call cx prim 74 [.ptr id 0 0 1] h = some (.tup [.t (.int .i64 j.due), .t (.bool true)], h) := by
  rw [call_run rfl Try.func74 ok74 nd74 rfl (Nat.le_of_ble_eq_true rfl) rfl rfl]
  simp -implicitDefEqProofs [ho]
theorem s75 (j : Job) {h : H} {id : Nat} (ho : h.objs id = some (.row 31 9 [.t j.t])) : call cx prim 75 [.ptr id 0 0 1] h = some (.tup [.t (.int .i64 j.till), .t (.bool true)], h) := by
  rw [call_run rfl Try.func75 ok75 nd75 rfl (Nat.le_of_ble_eq_true rfl) rfl rfl]
  simp -implicitDefEqProofs [ho]
theorem c74 {c : FuncId} (j : Job) {h : H} {id : Nat} (ho : h.objs id = some (.row 31 9 [.t j.t])) : callD (cx.at c) (call cx prim) 74 [.ptr id 0 0 1] h = some (.tup [.t (.int .i64 j.due), .t (.bool true)], h) := keepT cb74 (by simp [md]) (s74 j ho)
theorem c75 {c : FuncId} (j : Job) {h : H} {id : Nat} (ho : h.objs id = some (.row 31 9 [.t j.t])) : callD (cx.at c) (call cx prim) 75 [.ptr id 0 0 1] h = some (.tup [.t (.int .i64 j.till), .t (.bool true)], h) := keepT cb75 (by simp [md]) (s75 j ho)
theorem s54 (j : Job) (hv : IsSl j.vars) : ∃ h', call cx prim 54 [.t j.t] .empty = some (.tup [.t (.int .i64 (sinceS j).1), .t (.bool (sinceS j).2)], h') := by
  rw [call_run rfl Try.func54 ok54 nd54 rfl (Nat.le_of_ble_eq_true rfl) rfl rfl]
  by_cases h1 : j.state = 1
  · simp -implicitDefEqProofs (disch := first | omega | simp) [hv.cells, h1, c74 j, sinceS]
  by_cases h2 : j.state = 2
  · simp -implicitDefEqProofs (disch := first | omega | simp) [hv.cells, h2, c75 j, sinceS]
  · rcases Int.lt_or_lt_of_ne h1 with h3 | h3
    · simp -implicitDefEqProofs (disch := omega) [hv.cells, h1, h2, sinceS]
    · simp -implicitDefEqProofs (disch := omega) [hv.cells, h1, h2, sinceS]
theorem c54 {c : FuncId} (j : Job) (hv : IsSl j.vars) (h : H) (hm : md c 54 = .pure) : callD (cx.at c) (call cx prim) 54 [.t j.t] h = some (.tup [.t (.int .i64 (sinceS j).1), .t (.bool (sinceS j).2)], h) := by
  obtain ⟨h', q⟩ := s54 j hv
  exact pureT cb54 hm q (by simp [snapOut]) rfl
def refusalS (j : Job) : Int := if j.state = 3 then 233 else if j.state = 1 then 234 else if j.state = 2 then 234 else 232
theorem s55 (j : Job) (hv : IsSl j.vars) : ∃ h', call cx prim 55 [.t j.t] .empty = some (.t (.int .i64 (refusalS j)), h') := by
  rw [call_run rfl Try.func55 ok55 nd55 rfl (Nat.le_of_ble_eq_true rfl) rfl rfl]
  by_cases h1 : j.state = 3
  · simp -implicitDefEqProofs (disch := omega) [hv.cells, h1, refusalS]
  by_cases h2 : j.state = 1
  · simp -implicitDefEqProofs (disch := omega) [hv.cells, h2, refusalS]
  by_cases h3 : j.state = 2
  · simp -implicitDefEqProofs (disch := omega) [hv.cells, h3, refusalS]
  · simp -implicitDefEqProofs (disch := omega) [hv.cells, h1, h2, h3, refusalS]
theorem c55 {c : FuncId} (j : Job) (hv : IsSl j.vars) (h : H) (hm : md c 55 = .pure) : callD (cx.at c) (call cx prim) 55 [.t j.t] h = some (.t (.int .i64 (refusalS j)), h) := by
  obtain ⟨h', q⟩ := s55 j hv
  exact pureT cb55 hm q rfl rfl
theorem s56 (j : Job) (hv : IsSl j.vars) : ∃ h', call cx prim 56 [.t j.t] .empty = some (.t j.t, h') := by
  rw [call_run rfl Try.func56 ok56 nd56 rfl (Nat.le_of_ble_eq_true rfl) rfl rfl]
  simp -implicitDefEqProofs (disch := omega) [hv.cells, c53 (c := 56) hv _ rfl]
theorem c56 {c : FuncId} (j : Job) (hv : IsSl j.vars) (h : H) (hm : md c 56 = .pure) : callD (cx.at c) (call cx prim) 56 [.t j.t] h = some (.t j.t, h) := by
  obtain ⟨h', q⟩ := s56 j hv
  exact pureT cb56 hm q rfl rfl
def hadS (j : Job) (now : Int) : Bool := decide (j.state = 2 ∧ clk now < j.till)
theorem s58 (j : Job) (now : Int) (hv : IsSl j.vars) : ∃ h', call cx prim 58 [.t j.t, .t (.int .i64 now)] .empty = some (.t (.bool (hadS j now)), h') := by
  rw [call_run rfl Try.func58 ok58 nd58 rfl (Nat.le_of_ble_eq_true rfl) rfl rfl]
  by_cases h1 : j.state = 2
  · simp -implicitDefEqProofs (disch := omega) [hv.cells, h1, hadS, c52 (c := 58) now _ rfl, ltI]
  · simp -implicitDefEqProofs (disch := omega) [hv.cells, h1, hadS]
theorem c58 {c : FuncId} (j : Job) (now : Int) (hv : IsSl j.vars) (h : H) (hm : md c 58 = .pure) : callD (cx.at c) (call cx prim) 58 [.t j.t, .t (.int .i64 now)] h = some (.t (.bool (hadS j now)), h) := by
  obtain ⟨h', q⟩ := s58 j now hv
  exact pureT cb58 hm q rfl rfl
theorem clk_bd (n : Int) : 0 ≤ clk n ∧ clk n ≤ 2199023255552 := by unfold clk; split <;> (try split) <;> omega
theorem spn_bd (n : Int) : 0 ≤ spn n ∧ spn n ≤ 1099511627776 := by unfold spn; split <;> (try split) <;> omega
theorem trs_bd (n : Int) : 1 ≤ trs n ∧ trs n ≤ 100 := by unfold trs; split <;> (try split) <;> omega
def newS (id inst : Int) (node : ByteArray) (undo : Bool) (vars : T) (left now : Int) : Job := ⟨id, inst, node, undo, 1, trs left, clk now, 0, vars⟩
theorem s21 (id inst : Int) (node : ByteArray) (undo : Bool) {vars : T} (hv : IsSl vars) (left now : Int) : ∃ h', call cx prim 21 [.t (.int .i64 id), .t (.int .i64 inst), .t (.str node), .t (.bool undo), .t vars, .t (.int .i64 left), .t (.int .i64 now)] .empty = some (.t (newS id inst node undo vars left now).t, h') := by
  rw [call_run rfl Try.func21 ok21 nd21 rfl (Nat.le_of_ble_eq_true rfl) rfl rfl]
  simp -implicitDefEqProofs (disch := omega) [hv.cells, c51 (c := 21) _ _ rfl, c52 (c := 21) _ _ rfl, c53 (c := 21) hv _ rfl, newS]
def lockS (j : Job) (now len : Int) : Job × Int := if (sinceS j).2 = false ∨ clk now < (sinceS j).1 then (zeroJob, refusalS j) else ({ j with state := 2, till := clk now + (if spn len < 1 then 1 else spn len) }, 0)
theorem s22 (j : Job) (now len : Int) (hv : IsSl j.vars) : ∃ h', call cx prim 22 [.t j.t, .t (.int .i64 now), .t (.int .i64 len)] .empty = some (.tup [.t (lockS j now len).1.t, .t (.int .i64 (lockS j now len).2)], h') := by
  rw [call_run rfl Try.func22 ok22 nd22 rfl (Nat.le_of_ble_eq_true rfl) rfl rfl]
  have b1 := clk_bd now
  have b2 := spn_bd len
  cases h1 : (sinceS j).2 with
  | false => simp -implicitDefEqProofs (disch := omega) [hv.cells, c54 (c := 22) j hv _ rfl, c55 (c := 22) j hv _ rfl, h1, lockS, zeroJob]
  | true =>
    by_cases h2 : clk now < (sinceS j).1
    · simp -implicitDefEqProofs (disch := omega) [hv.cells, c52 (c := 22) _ _ rfl, c54 (c := 22) j hv _ rfl, c55 (c := 22) j hv _ rfl, h1, h2, lockS, zeroJob]
    · simp -implicitDefEqProofs (disch := omega) [hv.cells, c52 (c := 22) _ _ rfl, c54 (c := 22) j hv _ rfl, c56 (c := 22) j hv _ rfl, c57 (c := 22) _ _ rfl, h1, h2, lockS]
theorem c22 {c : FuncId} (j : Job) (now len : Int) (hv : IsSl j.vars) (h : H) (hm : md c 22 = .pure) : callD (cx.at c) (call cx prim) 22 [.t j.t, .t (.int .i64 now), .t (.int .i64 len)] h = some (.tup [.t (lockS j now len).1.t, .t (.int .i64 (lockS j now len).2)], h) := by
  obtain ⟨h', q⟩ := s22 j now len hv
  exact pureT cb22 hm q (by simp [snapOut]) rfl
def finishS (j : Job) (now : Int) : Job × Int := if hadS j now then ({ j with state := 3 }, 0) else (zeroJob, refusalS j)
theorem s30 (j : Job) (now : Int) (hv : IsSl j.vars) : ∃ h', call cx prim 30 [.t j.t, .t (.int .i64 now)] .empty = some (.tup [.t (finishS j now).1.t, .t (.int .i64 (finishS j now).2)], h') := by
  rw [call_run rfl Try.func30 ok30 nd30 rfl (Nat.le_of_ble_eq_true rfl) rfl rfl]
  cases h1 : hadS j now with
  | false => simp -implicitDefEqProofs (disch := omega) [hv.cells, c58 (c := 30) j now hv _ rfl, c55 (c := 30) j hv _ rfl, h1, finishS, zeroJob]
  | true => simp -implicitDefEqProofs (disch := omega) [hv.cells, c58 (c := 30) j now hv _ rfl, c56 (c := 30) j hv _ rfl, h1, finishS]
def leftS (j : Job) : Int := (if j.left < 1 then 1 else if j.left < 100 then j.left else 100) - 1
def failS (j : Job) (now all backoff : Int) : Job × Int := if hadS j now then
    (if 0 < leftS j then { j with state := 1, left := leftS j, till := 0, due := clk now + spn backoff * (if trs all - leftS j < 1 then 1 else trs all - leftS j) } else { j with state := 4, left := leftS j, till := 0 }, 0) else (zeroJob, refusalS j)
theorem leftS_bd (j : Job) : 0 ≤ leftS j ∧ leftS j ≤ 99 := by unfold leftS; split <;> (try split) <;> omega
theorem leftS_eq (j : Job) : (if 100 < if j.left < 1 then 1 else j.left then (100 : Int) else if j.left < 1 then 1 else j.left) = leftS j + 1 := by unfold leftS; split <;> (try split) <;> (try split) <;> omega
theorem s23 (j : Job) (now all backoff : Int) (hv : IsSl j.vars) : ∃ h', call cx prim 23 [.t j.t, .t (.int .i64 now), .t (.int .i64 all), .t (.int .i64 backoff)] .empty = some (.tup [.t (failS j now all backoff).1.t, .t (.int .i64 (failS j now all backoff).2)], h') := by
  rw [call_run rfl Try.func23 ok23 nd23 rfl (Nat.le_of_ble_eq_true rfl) rfl rfl]
  have b1 := clk_bd now
  have b2 := spn_bd backoff
  have b3 := trs_bd all
  have b4 := leftS_bd j
  have b5 := leftS_eq j
  have w1 : IntKind.i64.wrap (leftS j) = leftS j := wrap_i64 (by omega) (by omega)
  cases h1 : hadS j now with
  | false => simp -implicitDefEqProofs (disch := omega) [hv.cells, c58 (c := 23) j now hv _ rfl, c55 (c := 23) j hv _ rfl, h1, failS, zeroJob]
  | true =>
    by_cases h2 : 0 < leftS j
    · have w2 : IntKind.i64.wrap (trs all - leftS j) = trs all - leftS j := wrap_i64 (by omega) (by omega)
      generalize hm : (if trs all - leftS j < 1 then (1 : Int) else trs all - leftS j) = m
      have hm1 : 1 ≤ m ∧ m ≤ 100 := by
        by_cases h : trs all - leftS j < 1
        · rw [if_pos h] at hm; omega
        · rw [if_neg h] at hm; omega
      have hp : 0 ≤ spn backoff * m ∧ spn backoff * m ≤ 109951162777600 := by
        have h3 := Int.mul_le_mul (a := spn backoff) (b := m) (c := 1099511627776) (d := 100) (by omega) (by omega) (by omega) (by omega)
        have h4 := Int.mul_nonneg (a := spn backoff) (b := m) (by omega) (by omega)
        have h5 : (1099511627776 : Int) * 100 = 109951162777600 := by decide
        rw [h5] at h3
        exact ⟨h4, h3⟩
      have w3 : IntKind.i64.wrap (spn backoff * m) = spn backoff * m := wrap_i64 (by omega) (by omega)
      have w4 : IntKind.i64.wrap (clk now + spn backoff * m) = clk now + spn backoff * m := wrap_i64 (by omega) (by omega)
      simp -implicitDefEqProofs [hv.cells, c51 (c := 23) _ _ rfl, c52 (c := 23) _ _ rfl, c57 (c := 23) _ _ rfl, c58 (c := 23) j now hv _ rfl, c56 (c := 23) j hv _ rfl, h1, h2, failS, b5, w1, w2, hm, w3, w4]
    · have h3 : leftS j = 0 := by omega
      rw [h3] at w1 b5
      simp -implicitDefEqProofs [hv.cells, c51 (c := 23) _ _ rfl, c52 (c := 23) _ _ rfl, c57 (c := 23) _ _ rfl, c58 (c := 23) j now hv _ rfl, c56 (c := 23) j hv _ rfl, h1, h3, failS, b5, w1]
theorem c23 {c : FuncId} (j : Job) (now all backoff : Int) (hv : IsSl j.vars) (h : H) (hm : md c 23 = .pure) : callD (cx.at c) (call cx prim) 23 [.t j.t, .t (.int .i64 now), .t (.int .i64 all), .t (.int .i64 backoff)] h = some (.tup [.t (failS j now all backoff).1.t, .t (.int .i64 (failS j now all backoff).2)], h) := by
  obtain ⟨h', q⟩ := s23 j now all backoff hv
  exact pureT cb23 hm q (by simp [snapOut]) rfl
def againS (j : Job) (now all : Int) : Job × Int := if j.state = 4 then ({ j with state := 1, left := trs all, due := clk now }, 0) else if j.state = 3 then (zeroJob, 233) else (zeroJob, 232)
theorem s31 (j : Job) (now all : Int) (hv : IsSl j.vars) : ∃ h', call cx prim 31 [.t j.t, .t (.int .i64 now), .t (.int .i64 all)] .empty = some (.tup [.t (againS j now all).1.t, .t (.int .i64 (againS j now all).2)], h') := by
  rw [call_run rfl Try.func31 ok31 nd31 rfl (Nat.le_of_ble_eq_true rfl) rfl rfl]
  by_cases h1 : j.state = 4
  · obtain ⟨id, inst, node, undo, state, left, due, till, vars⟩ := j
    simp only at h1
    subst h1
    have q := fun h => c56 (c := 31) ⟨id, inst, node, undo, 4, left, due, till, vars⟩ hv h rfl
    simp -implicitDefEqProofs (disch := omega) [hv.cells, c51 (c := 31) _ _ rfl, c52 (c := 31) _ _ rfl, q, againS]
  by_cases h2 : j.state = 3
  · simp -implicitDefEqProofs (disch := omega) [hv.cells, h2, againS, zeroJob]
  · simp -implicitDefEqProofs (disch := omega) [hv.cells, h1, h2, againS, zeroJob]
def dropS (j : Job) : Job := if j.state = 1 ∨ j.state = 2 ∨ j.state = 4 then { j with state := 5 } else j
theorem s32 (j : Job) (hv : IsSl j.vars) : ∃ h', call cx prim 32 [.t j.t] .empty = some (.t (dropS j).t, h') := by
  rw [call_run rfl Try.func32 ok32 nd32 rfl (Nat.le_of_ble_eq_true rfl) rfl rfl]
  obtain ⟨id, inst, node, undo, state, left, due, till, vars⟩ := j
  have q := fun st h => c56 (c := 32) ⟨id, inst, node, undo, st, left, due, till, vars⟩ hv h rfl
  simp only at hv
  by_cases h1 : state = 1
  · subst h1
    simp -implicitDefEqProofs (disch := omega) [hv.cells, dropS, q]
  by_cases h2 : state = 2
  · subst h2
    simp -implicitDefEqProofs (disch := omega) [hv.cells, dropS, q]
  by_cases h3 : state = 4
  · subst h3
    simp -implicitDefEqProofs (disch := omega) [hv.cells, dropS, q]
  · simp -implicitDefEqProofs (disch := omega) [hv.cells, h1, h2, h3, dropS, q]
theorem c30 {c : FuncId} (j : Job) (now : Int) (hv : IsSl j.vars) (h : H) (hm : md c 30 = .pure) : callD (cx.at c) (call cx prim) 30 [.t j.t, .t (.int .i64 now)] h = some (.tup [.t (finishS j now).1.t, .t (.int .i64 (finishS j now).2)], h) := by
  obtain ⟨h', q⟩ := s30 j now hv
  exact pureT cb30 hm q (by simp [snapOut]) rfl
theorem c31 {c : FuncId} (j : Job) (now all : Int) (hv : IsSl j.vars) (h : H) (hm : md c 31 = .pure) : callD (cx.at c) (call cx prim) 31 [.t j.t, .t (.int .i64 now), .t (.int .i64 all)] h = some (.tup [.t (againS j now all).1.t, .t (.int .i64 (againS j now all).2)], h) := by
  obtain ⟨h', q⟩ := s31 j now all hv
  exact pureT cb31 hm q (by simp [snapOut]) rfl
theorem c32 {c : FuncId} (j : Job) (hv : IsSl j.vars) (h : H) (hm : md c 32 = .pure) : callD (cx.at c) (call cx prim) 32 [.t j.t] h = some (.t (dropS j).t, h) := by
  obtain ⟨h', q⟩ := s32 j hv
  exact pureT cb32 hm q rfl rfl
end Go.Proofs.Ytccajagfgdchlaa
