import Derived.Test.YtlcbhhmnfmeoeaaDoorU1
import Derived.Test.YtlcbhhmnfmeoeaaDoorDU3
set_option linter.unusedSimpArgs false
set_option linter.unusedVariables false
set_option linter.unusedSectionVars false
namespace Go.Proofs.YtlcbhhmnfmeoeaaDoor
open Vai
set_option maxHeartbeats 0
/-! kinds of bytes -/
theorem s19 (b : Nat) : call cx prim 19 [.t (.int .u8 b)] .empty = some (.t (.bool (blankB b)), .empty) := by
  rw [call_run rfl Tryd.func19 ok19 nd19 rfl (Nat.le_of_ble_eq_true rfl) rfl rfl]
  unfold blankB
  by_cases h1 : b = 32
  · subst h1; simp -implicitDefEqProofs (disch := omega) []
  by_cases h2 : b = 9
  · subst h2; simp -implicitDefEqProofs (disch := omega) []
  by_cases h3 : b = 10
  · subst h3; simp -implicitDefEqProofs (disch := omega) []
  by_cases h4 : b = 13
  · subst h4; simp -implicitDefEqProofs (disch := omega) []
  · simp -implicitDefEqProofs (disch := omega) [h1, h2, h3, h4]
theorem c19 {c : FuncId} (b : Nat) (h : H) (hm : md c 19 = .pure) : callD (cx.at c) (call cx prim) 19 [.t (.int .u8 b)] h = some (.t (.bool (blankB b)), h) := pureT cb19 hm (s19 b) rfl rfl
theorem s22 (b : Nat) : call cx prim 22 [.t (.int .u8 b)] .empty = some (.t (.bool (blankB b)), .empty) := by
  rw [call_run rfl Tryd.func22 ok22 nd22 rfl (Nat.le_of_ble_eq_true rfl) rfl rfl]
  unfold blankB
  by_cases h1 : b = 32
  · subst h1; simp -implicitDefEqProofs (disch := omega) []
  by_cases h2 : b = 9
  · subst h2; simp -implicitDefEqProofs (disch := omega) []
  by_cases h3 : b = 13
  · subst h3; simp -implicitDefEqProofs (disch := omega) []
  by_cases h4 : b = 10
  · subst h4; simp -implicitDefEqProofs (disch := omega) []
  · simp -implicitDefEqProofs (disch := omega) [h1, h2, h3, h4]
theorem c22 {c : FuncId} (b : Nat) (h : H) (hm : md c 22 = .pure) : callD (cx.at c) (call cx prim) 22 [.t (.int .u8 b)] h = some (.t (.bool (blankB b)), h) := pureT cb22 hm (s22 b) rfl rfl
theorem s30 (b : Nat) : call cx prim 30 [.t (.int .u8 b)] .empty = some (.t (.bool (digitB b)), .empty) := by
  rw [call_run rfl Tryd.func30 ok30 nd30 rfl (Nat.le_of_ble_eq_true rfl) rfl rfl]
  unfold digitB
  by_cases h1 : 48 ≤ b
  · by_cases h2 : b ≤ 57
    · simp -implicitDefEqProofs (disch := omega) [h1, h2]
    · simp -implicitDefEqProofs (disch := omega) [h1, h2]
  · simp -implicitDefEqProofs (disch := omega) [h1]
theorem c30 {c : FuncId} (b : Nat) (h : H) (hm : md c 30 = .pure) : callD (cx.at c) (call cx prim) 30 [.t (.int .u8 b)] h = some (.t (.bool (digitB b)), h) := pureT cb30 hm (s30 b) rfl rfl
theorem s23 (b : Nat) : call cx prim 23 [.t (.int .u8 b)] .empty = some (.t (.bool (digitB b)), .empty) := by
  rw [call_run rfl Tryd.func23 ok23 nd23 rfl (Nat.le_of_ble_eq_true rfl) rfl rfl]
  unfold digitB
  by_cases h1 : 48 ≤ b
  · by_cases h2 : b ≤ 57
    · simp -implicitDefEqProofs (disch := omega) [h1, h2]
    · simp -implicitDefEqProofs (disch := omega) [h1, h2]
  · simp -implicitDefEqProofs (disch := omega) [h1]
theorem c23 {c : FuncId} (b : Nat) (h : H) (hm : md c 23 = .pure) : callD (cx.at c) (call cx prim) 23 [.t (.int .u8 b)] h = some (.t (.bool (digitB b)), h) := pureT cb23 hm (s23 b) rfl rfl
theorem s32 (b : Nat) : call cx prim 32 [.t (.int .u8 b)] .empty = some (.t (.bool (letterB b)), .empty) := by
  rw [call_run rfl Tryd.func32 ok32 nd32 rfl (Nat.le_of_ble_eq_true rfl) rfl rfl]
  unfold letterB
  by_cases h1 : 65 ≤ b ∧ b ≤ 90
  · simp -implicitDefEqProofs (disch := omega) [h1]
  by_cases h2 : 97 ≤ b ∧ b ≤ 122
  · simp -implicitDefEqProofs (disch := omega) [h2, show ¬ b ≤ 90 by omega, show 65 ≤ b by omega]
  by_cases h3 : b = 95
  · subst h3; simp -implicitDefEqProofs (disch := omega) []
  · have e : decide ((65 ≤ b ∧ b ≤ 90) ∨ (97 ≤ b ∧ b ≤ 122) ∨ b = 95) = false := decide_eq_false (by omega)
    rw [e]
    by_cases h4 : 65 ≤ b
    · by_cases h5 : 97 ≤ b
      · simp -implicitDefEqProofs (disch := omega) []
      · simp -implicitDefEqProofs (disch := omega) []
    · simp -implicitDefEqProofs (disch := omega) []
theorem c32 {c : FuncId} (b : Nat) (h : H) (hm : md c 32 = .pure) : callD (cx.at c) (call cx prim) 32 [.t (.int .u8 b)] h = some (.t (.bool (letterB b)), h) := pureT cb32 hm (s32 b) rfl rfl
theorem s24 (b : Nat) : call cx prim 24 [.t (.int .u8 b)] .empty = some (.t (.bool (letterB b)), .empty) := by
  rw [call_run rfl Tryd.func24 ok24 nd24 rfl (Nat.le_of_ble_eq_true rfl) rfl rfl]
  unfold letterB
  by_cases h1 : 65 ≤ b ∧ b ≤ 90
  · simp -implicitDefEqProofs (disch := omega) [h1]
  by_cases h2 : 97 ≤ b ∧ b ≤ 122
  · simp -implicitDefEqProofs (disch := omega) [h2, show ¬ b ≤ 90 by omega, show 65 ≤ b by omega]
  by_cases h3 : b = 95
  · subst h3; simp -implicitDefEqProofs (disch := omega) []
  · have e : decide ((65 ≤ b ∧ b ≤ 90) ∨ (97 ≤ b ∧ b ≤ 122) ∨ b = 95) = false := decide_eq_false (by omega)
    rw [e]
    by_cases h4 : 65 ≤ b
    · by_cases h5 : 97 ≤ b
      · simp -implicitDefEqProofs (disch := omega) []
      · simp -implicitDefEqProofs (disch := omega) []
    · simp -implicitDefEqProofs (disch := omega) []
theorem c24 {c : FuncId} (b : Nat) (h : H) (hm : md c 24 = .pure) : callD (cx.at c) (call cx prim) 24 [.t (.int .u8 b)] h = some (.t (.bool (letterB b)), h) := pureT cb24 hm (s24 b) rfl rfl
theorem s34 (b : Nat) : ∃ h', call cx prim 34 [.t (.int .u8 b)] .empty = some (.t (.bool (wordB b)), h') := by
  rw [call_run rfl Tryd.func34 ok34 nd34 rfl (Nat.le_of_ble_eq_true rfl) rfl rfl]
  unfold wordB
  cases h1 : letterB b with
  | true => simp -implicitDefEqProofs (disch := omega) [c32 (c := 34) b _ rfl, h1]
  | false => simp -implicitDefEqProofs (disch := omega) [c32 (c := 34) b _ rfl, c30 (c := 34) b _ rfl, h1]
theorem c34 {c : FuncId} (b : Nat) (h : H) (hm : md c 34 = .pure) : callD (cx.at c) (call cx prim) 34 [.t (.int .u8 b)] h = some (.t (.bool (wordB b)), h) := by
  obtain ⟨h', q⟩ := s34 b
  exact pureT cb34 hm q rfl rfl
/-! the lexer -/
def lxO (s : ByteArray) (i : Int) (d : D) : AObj := .row 50 3 [mkAgg [.t (.str s), .t (.int .i64 i), d]]
theorem mkAgg_parts (ds : List D) : (mkAgg ds).parts = some ds := by
  unfold mkAgg
  split
  · rename_i ts h
    simp only [D.parts]
    rw [toT_isT h]
  · rfl
theorem put_agg (ds new : List D) (f : Nat) : putCells (mkAgg ds) f new = mkAgg (splice ds f new) := by simp only [putCells, mkAgg_parts]
theorem set_self {h : H} {id : Nat} {o : AObj} (ho : h.objs id = some o) : h.set id o = h := by
  cases h with
  | mk objs next marks =>
    simp only [H.set, H.mk.injEq, and_true]
    funext j
    simp only [upd]
    split
    · rename_i e; subst e; exact ho.symm
    · rfl
section
variable {s : ByteArray} {i : Int} {d : D} {h : H} {L : Nat} (ho : h.objs L = some (lxO s i d))
include ho
theorem lx_s : loadD Tryd.prog h 9 (.ptr L 0 0 1) = some (.t (.str s)) := by simp [-mkAgg, loadD, H.els, ho, lxO, wholeArr, partD, mkAgg_cells]
theorem lx_at : loadD Tryd.prog h 3 (.ptr L 0 1 1) = some (.t (.int .i64 i)) := by simp [-mkAgg, loadD, H.els, ho, lxO, wholeArr, partD, mkAgg_cells]
theorem lx_out : loadD Tryd.prog h 22 (.ptr L 0 2 1) = some d := by simp [-mkAgg, loadD, H.els, ho, lxO, wholeArr, partD, mkAgg_cells]
theorem lx_els : (h.els L 1) = some (50, 3, [mkAgg [.t (.str s), .t (.int .i64 i), d]]) := by simp [H.els, ho, lxO]
theorem lx_nil : nilCheckD h (.ptr L 0 0 1) = some (.ptr L 0 0 1) := by simp only [nilCheckD, lx_els ho]
theorem lx_f0 : fieldAddrD Tryd.prog h 50 (.ptr L 0 0 1) 0 = some (.ptr L 0 0 1) := by simp [-H.els, fieldAddrD, lx_els ho]
theorem lx_f1 : fieldAddrD Tryd.prog h 50 (.ptr L 0 0 1) 1 = some (.ptr L 0 1 1) := by simp [-H.els, fieldAddrD, lx_els ho]
theorem lx_f2 : fieldAddrD Tryd.prog h 50 (.ptr L 0 0 1) 2 = some (.ptr L 0 2 1) := by simp [-H.els, fieldAddrD, lx_els ho]
theorem lx_set (j : Int) : storeD Tryd.prog h 3 (.ptr L 0 1 1) (.t (.int .i64 j)) = some (h.set L (lxO s j d)) := by
  have hm : h.mays L [D.t (.int .i64 j)] = true := mays_trees h L [.int .i64 j]
  simp [-mkAgg, -H.els, -H.mays, storeD, lx_els ho, hm, okCells, wholeArr, mkAgg_cells, mkAgg_parts, splice, lxO]
theorem lx_put {d' : D} (hd : d'.cells = [d']) (hm : h.may L d' = true) : storeD Tryd.prog h 22 (.ptr L 0 2 1) d' = some (h.set L (lxO s i d')) := by
  have hm' : h.mays L [d'] = true := by simp only [H.mays, List.all_cons, hm, List.all_nil, Bool.and_self]
  simp [-mkAgg, -H.els, -H.mays, -H.may, storeD, lx_els ho, hd, hm', okCells, wholeArr, mkAgg_cells, mkAgg_parts, splice, lxO]
end
theorem s18 {p : FuncId} {Pb : Nat → Bool} (hp : ∀ (b : Nat) h, callD (cx.at 18) (call cx prim) p [.t (.int .u8 b)] h = some (.t (.bool (Pb b)), h)) {s : ByteArray} {i : Nat} {d : D} {h : H} {L : Nat} (ho : h.objs L = some (lxO s i d)) (hs : s.size ≤ 1000000000) (hi : i ≤ s.size) :
    call cx prim 18 [.ptr L 0 0 1, .func (.func p) [] []] h = some (.t (.str (s.extract i (runTo Pb s i))), h.set L (lxO s (runTo Pb s i : Nat) d)) := by
  rw [call_run rfl Tryd.func18 ok18 nd18 rfl (Nat.le_of_ble_eq_true rfl) rfl rfl]
  simp -implicitDefEqProofs [-storeD, -load_ptr, -nilCheckD, -fieldAddrD, -H.els, lx_s ho, lx_at ho, lx_nil ho, lx_f0 ho, lx_f1 ho]
  generalize hLp : loopω _ _ = R
  obtain ⟨x, ⟨nn, env, h2⟩, rfl, rfl, rfl, rfl, e0, e5⟩ := loop_uses hLp (s.size + 1)
    (fun k st => st.n = 50 ∧ st.env 0 = .ptr L 0 0 1 ∧ st.env 1 = .func (.func p) [] [] ∧ st.env 5 = .t (.int .i64 i) ∧ ∃ j : Nat, i + k ≤ j ∧ j ≤ s.size ∧ runTo Pb s j = runTo Pb s i ∧ st.h = h.set L (lxO s j d))
    (fun x st => st.n = 50 ∧ x = .exit 0 ∧ st.h = h.set L (lxO s (runTo Pb s i : Nat) d) ∧ st.env 0 = .ptr L 0 0 1 ∧ st.env 5 = .t (.int .i64 i))
    (by refine ⟨rfl, by simp, by simp, by simp, i, by omega, hi, rfl, (set_self ho).symm⟩) (by
    rintro k ⟨nn, env, h2⟩ hk ⟨rfl, e0, e1, e5, j, hik, hj, hrun, rfl⟩
    simp only at e0 e1 e5
    have ho2 : (h.set L (lxO s j d)).objs L = some (lxO s j d) := by simp
    rw [LB_run nd18 rfl]
    by_cases hi2 : j < s.size
    · obtain ⟨b, hb, hbt⟩ := bt_get hi2
      have c1 : (j : Int) < s.size := by omega
      have pq := fun h => hp b.toNat h
      have hs2 := lx_set ho2 (j + 1 : Int)
      cases hpb : Pb b.toNat with
      | true =>
        have hrs := runTo_step (p := Pb) hi2 (by rw [hbt]; exact hpb)
        rw [hpb] at pq
        simp -implicitDefEqProofs (disch := omega) [-storeD, -load_ptr, -nilCheckD, -fieldAddrD, -H.els, lx_s ho2, lx_at ho2, lx_nil ho2, lx_f0 ho2, lx_f1 ho2, e0, e1, e5, hb, pq, Wp_some, hs2]
        exact ⟨by omega, j + 1, by omega, by omega, by rw [hrs, hrun], rfl⟩
      | false =>
        rw [hpb] at pq
        have hrs := runTo_stop (p := Pb) (s := s) (i := j) (by rw [hbt, hpb]; simp)
        simp -implicitDefEqProofs (disch := omega) [-storeD, -load_ptr, -nilCheckD, -fieldAddrD, -H.els, lx_s ho2, lx_at ho2, lx_nil ho2, lx_f0 ho2, lx_f1 ho2, e0, e1, e5, hb, pq, Wp_some]
        rw [← hrun, hrs]
    · have hrs := runTo_stop (p := Pb) (s := s) (i := j) (by omega)
      simp -implicitDefEqProofs (disch := omega) [-storeD, -load_ptr, -nilCheckD, -fieldAddrD, -H.els, lx_s ho2, lx_at ho2, lx_nil ho2, lx_f0 ho2, lx_f1 ho2, e0, e1, e5, Wp_some]
      rw [← hrun, hrs])
  simp only at e0 e5
  have hle := runTo_le (p := Pb) hi
  have hge := runTo_ge Pb s i
  generalize runTo Pb s i = j at hle hge
  have ho2 : (h.set L (lxO s j d)).objs L = some (lxO s j d) := by simp
  simp -implicitDefEqProofs (disch := omega) [-storeD, -load_ptr, -nilCheckD, -fieldAddrD, -H.els, lx_s ho2, lx_at ho2, lx_nil ho2, lx_f0 ho2, lx_f1 ho2, e0, e5, sl_str]
end Go.Proofs.YtlcbhhmnfmeoeaaDoor
