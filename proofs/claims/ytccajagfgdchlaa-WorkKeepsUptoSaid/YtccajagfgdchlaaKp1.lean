import Derived.Test.YtccajagfgdchlaaJ1
import Derived.Test.YtccajagfgdchlaaKpFn
set_option linter.unusedSimpArgs false
set_option linter.unusedVariables false
namespace Vai
open Go
theorem ownBrow {cc : Cc} {call : ACall} {k : FuncId} {args : List D} {h : H} {ts : List T} {bt : TypeId} {s : Nat} {xs : List T} {h0 : H} (hcb : callable cc.P k = true) (hm : cc.md k = .own) (hs : allM (snap h) args = some ts) (hc : call k (ts.map .t) .empty = some (brow bt s xs h0)) (hok : T.flat.flats xs = true ∨ args.all D.isT = true) : callD cc call k args h = some (brow bt s xs h) := by
  simp only [callD, hcb, if_true, hm, callOwn, hs, hc]
  have h1 : ∀ (id : Nat) (g g' : H) (len top : Nat) (all : Bool), ownOut all g g' (.row id 0 len top) = match g.objs id with
    | some (.row bt s es) => if es.length = top ∧ len ≤ top then
        match allM (snap g) (es.take len) with
        | some ts => if T.flat.flats ts || (all && (es.take len).all D.isT) then some (.row g'.next 0 len len, g'.push (.row bt s (ts.map .t))) else none
        | none => none
      else none
    | _ => none := fun _ _ _ _ _ _ => rfl
  simp only [brow, h1]
  have h2 : (H.push h0 (.row bt s (xs.map .t))).objs h0.next = some (.row bt s (xs.map .t)) := by simp [H.push, upd]
  rw [h2]
  have h3 : (xs.map D.t).take xs.length = xs.map .t := List.take_of_length_le (by simp)
  have h4 : (T.flat.flats xs || (args.all D.isT && true)) = true := by
    rcases hok with h | h <;> simp [h]
  simp only [List.length_map, Nat.le_refl, and_self, if_true, h3, allM_snap_t, isT_map, h4]
end Vai
namespace Go.Proofs.Ytccajagfgdchlaa.Kp
open Vai
set_option maxHeartbeats 0
theorem n1 (n : Nat) : (n = n + 1) = False := by simp
theorem n2 (n : Nat) : (n = n + 1 + 1) = False := by simp only [eq_iff_iff, iff_false]; omega
theorem n3 (n : Nat) : (n = n + 1 + 1 + 1) = False := by simp only [eq_iff_iff, iff_false]; omega
theorem n4 (n : Nat) : (n = n + 1 + 1 + 1 + 1) = False := by simp only [eq_iff_iff, iff_false]; omega
theorem n5 (n : Nat) : (n = n + 1 + 1 + 1 + 1 + 1) = False := by simp only [eq_iff_iff, iff_false]; omega
theorem n6 (n : Nat) : (n = n + 1 + 1 + 1 + 1 + 1 + 1) = False := by simp only [eq_iff_iff, iff_false]; omega
theorem r2 (n : Nat) : (n + 1 + 1 = n) = False := by simp only [eq_iff_iff, iff_false]; omega
theorem r3 (n : Nat) : (n + 1 + 1 + 1 = n) = False := by simp only [eq_iff_iff, iff_false]; omega
theorem r4 (n : Nat) : (n + 1 + 1 + 1 + 1 = n) = False := by simp only [eq_iff_iff, iff_false]; omega
theorem r5 (n : Nat) : (n + 1 + 1 + 1 + 1 + 1 = n) = False := by simp only [eq_iff_iff, iff_false]; omega
theorem r6 (n : Nat) : (n + 1 + 1 + 1 + 1 + 1 + 1 = n) = False := by simp only [eq_iff_iff, iff_false]; omega
attribute [simp] n1 n2 n3 n4 n5 n6 r2 r3 r4 r5 r6
theorem s52 (n : Int) : call cx prim 52 [.t (.int .i64 n)] .empty = some (.t (.int .i64 (clk n)), .empty) := by
  rw [call_run rfl Try.func52 ok52 nd52 rfl (Nat.le_of_ble_eq_true rfl) rfl rfl]
  simp -implicitDefEqProofs
  unfold clk; split <;> split <;> omega
theorem c52 {c : FuncId} (n : Int) (h : H) (hm : md c 52 = .pure) : callD (cx.at c) (call cx prim) 52 [.t (.int .i64 n)] h = some (.t (.int .i64 (clk n)), h) := pureT cb52 hm (s52 n) rfl rfl
theorem s57 (n : Int) : call cx prim 57 [.t (.int .i64 n)] .empty = some (.t (.int .i64 (spn n)), .empty) := by
  rw [call_run rfl Try.func57 ok57 nd57 rfl (Nat.le_of_ble_eq_true rfl) rfl rfl]
  simp -implicitDefEqProofs
  unfold spn; split <;> split <;> omega
theorem c57 {c : FuncId} (n : Int) (h : H) (hm : md c 57 = .pure) : callD (cx.at c) (call cx prim) 57 [.t (.int .i64 n)] h = some (.t (.int .i64 (spn n)), h) := pureT cb57 hm (s57 n) rfl rfl
theorem s51 (n : Int) : call cx prim 51 [.t (.int .i64 n)] .empty = some (.t (.int .i64 (trs n)), .empty) := by
  rw [call_run rfl Try.func51 ok51 nd51 rfl (Nat.le_of_ble_eq_true rfl) rfl rfl]
  simp -implicitDefEqProofs
  unfold trs; split <;> split <;> omega
theorem c51 {c : FuncId} (n : Int) (h : H) (hm : md c 51 = .pure) : callD (cx.at c) (call cx prim) 51 [.t (.int .i64 n)] h = some (.t (.int .i64 (trs n)), h) := pureT cb51 hm (s51 n) rfl rfl
theorem s74 (j : Job) {h : H} {id : Nat} (ho : h.objs id = some (.row 31 9 [.t j.t])) : call cx prim 74 [.ptr id 0 0 1] h = some (.tup [.t (.int .i64 j.due), .t (.bool true)], h) := by
  rw [call_run rfl Try.func74 ok74 nd74 rfl (Nat.le_of_ble_eq_true rfl) rfl rfl]
  simp -implicitDefEqProofs [ho]
theorem s75 (j : Job) {h : H} {id : Nat} (ho : h.objs id = some (.row 31 9 [.t j.t])) : call cx prim 75 [.ptr id 0 0 1] h = some (.tup [.t (.int .i64 j.till), .t (.bool true)], h) := by
  rw [call_run rfl Try.func75 ok75 nd75 rfl (Nat.le_of_ble_eq_true rfl) rfl rfl]
  simp -implicitDefEqProofs [ho]
theorem c74 {c : FuncId} (j : Job) {h : H} {id : Nat} (ho : h.objs id = some (.row 31 9 [.t j.t])) : callD (cx.at c) (call cx prim) 74 [.ptr id 0 0 1] h = some (.tup [.t (.int .i64 j.due), .t (.bool true)], h) := keepT cb74 (by simp [md]) (s74 j ho)
theorem c75 {c : FuncId} (j : Job) {h : H} {id : Nat} (ho : h.objs id = some (.row 31 9 [.t j.t])) : callD (cx.at c) (call cx prim) 75 [.ptr id 0 0 1] h = some (.tup [.t (.int .i64 j.till), .t (.bool true)], h) := keepT cb75 (by simp [md]) (s75 j ho)
theorem s54 (j : Job) (hv : IsSl j.vars) : ∃ h', call cx prim 54 [.t j.t] .empty = some (.tup [.t (.int .i64 (sinceS j).1), .t (.bool (sinceS j).2)], h') := by
  rw [call_run rfl Try.func54 ok54 nd54 rfl (Nat.le_of_ble_eq_true rfl) rfl rfl]
  by_cases h1 : j.state = 1
  · simp -implicitDefEqProofs (disch := first | omega | simp) [hv.cells, h1, c74 j, sinceS]
  by_cases h2 : j.state = 2
  · simp -implicitDefEqProofs (disch := first | omega | simp) [hv.cells, h2, c75 j, sinceS]
  · rcases Int.lt_or_lt_of_ne h1 with h3 | h3
    · simp -implicitDefEqProofs (disch := omega) [hv.cells, h1, h2, sinceS]
    · simp -implicitDefEqProofs (disch := omega) [hv.cells, h1, h2, sinceS]
theorem c54 {c : FuncId} (j : Job) (hv : IsSl j.vars) (h : H) (hm : md c 54 = .pure) : callD (cx.at c) (call cx prim) 54 [.t j.t] h = some (.tup [.t (.int .i64 (sinceS j).1), .t (.bool (sinceS j).2)], h) := by
  obtain ⟨h', q⟩ := s54 j hv
  exact pureT cb54 hm q (by simp [snapOut]) rfl
def refusalS (j : Job) : Int := if j.state = 3 then 233 else if j.state = 1 then 234 else if j.state = 2 then 234 else 232
theorem s55 (j : Job) (hv : IsSl j.vars) : ∃ h', call cx prim 55 [.t j.t] .empty = some (.t (.int .i64 (refusalS j)), h') := by
  rw [call_run rfl Try.func55 ok55 nd55 rfl (Nat.le_of_ble_eq_true rfl) rfl rfl]
  by_cases h1 : j.state = 3
  · simp -implicitDefEqProofs (disch := omega) [hv.cells, h1, refusalS]
  by_cases h2 : j.state = 1
  · simp -implicitDefEqProofs (disch := omega) [hv.cells, h2, refusalS]
  by_cases h3 : j.state = 2
  · simp -implicitDefEqProofs (disch := omega) [hv.cells, h3, refusalS]
  · simp -implicitDefEqProofs (disch := omega) [hv.cells, h1, h2, h3, refusalS]
theorem c55 {c : FuncId} (j : Job) (hv : IsSl j.vars) (h : H) (hm : md c 55 = .pure) : callD (cx.at c) (call cx prim) 55 [.t j.t] h = some (.t (.int .i64 (refusalS j)), h) := by
  obtain ⟨h', q⟩ := s55 j hv
  exact pureT cb55 hm q rfl rfl
theorem s58 (j : Job) (now : Int) (hv : IsSl j.vars) : ∃ h', call cx prim 58 [.t j.t, .t (.int .i64 now)] .empty = some (.t (.bool (hadS j now)), h') := by
  rw [call_run rfl Try.func58 ok58 nd58 rfl (Nat.le_of_ble_eq_true rfl) rfl rfl]
  by_cases h1 : j.state = 2
  · simp -implicitDefEqProofs (disch := omega) [hv.cells, h1, hadS, c52 (c := 58) now _ rfl, ltI]
  · simp -implicitDefEqProofs (disch := omega) [hv.cells, h1, hadS]
theorem c58 {c : FuncId} (j : Job) (now : Int) (hv : IsSl j.vars) (h : H) (hm : md c 58 = .pure) : callD (cx.at c) (call cx prim) 58 [.t j.t, .t (.int .i64 now)] h = some (.t (.bool (hadS j now)), h) := by
  obtain ⟨h', q⟩ := s58 j now hv
  exact pureT cb58 hm q rfl rfl
/-- What a copy of the variables is. -/
abbrev jobR (j : Job) (id n : Nat) : D := .agg [.t (.int .i64 j.id), .t (.int .i64 j.inst), .t (.str j.node), .t (.bool j.undo), .t (.int .i64 j.state), .t (.int .i64 j.left), .t (.int .i64 j.due), .t (.int .i64 j.till), .row id 0 n n]
abbrev jobN (j : Job) : T := jobT j.id j.inst j.node j.undo j.state j.left j.due j.till .nilSlice
theorem k53n {c : FuncId} (h : H) (hm : md c 53 = .own) : callD (cx.at c) (call cx prim) 53 [.t .nilSlice] h = some (.t .nilSlice, h) := by
  have : call cx prim 53 [.t .nilSlice] .empty = some (.t .nilSlice, .empty) := by
    rw [call_run rfl Try.func53 ok53 nd53 rfl (Nat.le_of_ble_eq_true rfl) rfl rfl]
    simp -implicitDefEqProofs [binD]
  exact ownNew' (bt := 58) (s := 4) (xs := []) (ts := [.nilSlice]) (h0 := .empty) cb53 hm rfl this (.inl rfl)
theorem k53 {c : FuncId} {es : List T} (hlen : es.length * 48 ≤ 140737488355328) (hc : ∀ y ∈ es, y.cells.length = 4) (h : H) (hm : md c 53 = .own) : callD (cx.at c) (call cx prim) 53 [.t (.slice es)] h = some (brow 58 4 es h) := by
  have : call cx prim 53 [.t (.slice es)] .empty = some (brow 58 4 es .empty) := by
    rw [call_run rfl Try.func53 ok53 nd53 rfl (Nat.le_of_ble_eq_true rfl) rfl rfl]
    have q1 := append_brow (P := Try.prog) (h := .empty) (t := 29) (x := .t (.slice es)) (xs := []) (ys := es) tk29 sz58 byt58 zero58 rfl (by decide) rfl (by simpa using hc) (by simp; omega) (by simp; omega)
    rw [List.nil_append] at q1
    simp [brow] at q1
    simp -implicitDefEqProofs [binD, nilD, buildSliceD, q1, brow]
  exact ownBrow (ts := [.slice es]) cb53 hm rfl this (.inr rfl)
theorem set_push {h : H} {i : Nat} {o o' : AObj} (hi : i ≠ h.next) : (h.push o).set i o' = (h.set i o').push o := by
  simp only [H.push, H.set, H.mk.injEq, and_true]
  funext k
  simp only [upd]
  by_cases h1 : k = i
  · subst h1; simp [hi]
  · simp [h1]
theorem k56 (j : Job) {es : List T} (hv : j.vars = .slice es) (hlen : es.length * 48 ≤ 140737488355328) (hc : ∀ y ∈ es, y.cells.length = 4) (h : H) (hm : h.marks = []) : call cx prim 56 [.t j.t] h = some (jobR j (h.next + 2) es.length, ((h.push (.row 31 9 [jobR j (h.next + 2) es.length])).push (.row 31 9 [jobR j (h.next + 2) es.length])).push (.row 58 4 (es.map .t))) := by
  obtain ⟨id, inst, node, undo, state, left, due, till, vars⟩ := j
  simp only at hv
  subst hv
  rw [call_run rfl Try.func56 ok56 nd56 rfl (Nat.le_of_ble_eq_true rfl) rfl rfl]
  simp -implicitDefEqProofs (disch := omega) [k53 (c := 56) hlen hc _ rfl, brow, md, hm]
  simp only [H.push, H.set, H.mk.injEq, and_true]
  funext k
  simp only [upd]
  by_cases h0 : k = h.next
  · simp [h0]
  · by_cases h1 : k = h.next + 1
    · simp [h1]
    · simp [h0, h1]
end Go.Proofs.Ytccajagfgdchlaa.Kp
