import Derived.Test.YtaldobgfbkllfaaGreatDoorVaiSg
import Derived.Test.YtaldobgfbkllfaaGreatDoorVaiSe
set_option linter.unusedSimpArgs false
set_option linter.unusedVariables false
set_option linter.unusedSectionVars false
namespace Go.Proofs.YtaldobgfbkllfaaGreatDoor
open Vai
variable [Gl]
set_option maxHeartbeats 0
set_option maxRecDepth 100000
theorem s148 (x y : Int) : ∃ h', call cx prim 148 [.t (.slice [iv x, iv y])] .empty = some (.t (iv (if x = 0 then y else x)), h') := by
  rw [call_run (cx := cx) rfl Tryz.func148 ok148 nd148 rfl (Nat.le_of_ble_eq_true rfl) rfl rfl]
  by_cases hx : x = 0
  · subst hx
    by_cases hy : y = 0
    · subst hy
      simp -implicitDefEqProofs (disch := omega) [eqI]
      rw [loop_step, LB_run nd148 rfl]; simp -implicitDefEqProofs (disch := omega) [eqI]
      rw [loop_step, LB_run nd148 rfl]; simp -implicitDefEqProofs (disch := omega) [eqI]
      rw [loop_step, LB_run nd148 rfl]; simp -implicitDefEqProofs (disch := omega) [eqI]
    · simp -implicitDefEqProofs (disch := omega) [eqI]
      rw [loop_step, LB_run nd148 rfl]; simp -implicitDefEqProofs (disch := omega) [eqI]
      rw [loop_step, LB_run nd148 rfl]; simp -implicitDefEqProofs (disch := omega) [eqI, hy]
  · simp -implicitDefEqProofs (disch := omega) [eqI]
    rw [loop_step, LB_run nd148 rfl]; simp -implicitDefEqProofs (disch := omega) [eqI, hx]
end Go.Proofs.YtaldobgfbkllfaaGreatDoor

namespace Go.Proofs.YtaldobgfbkllfaaGreatDoor
open Vai
variable [Gl]
set_option maxHeartbeats 0
set_option maxRecDepth 100000
theorem c149 {c : FuncId} (a b : Int) (h : H) (hm : md c 149 = .pure) : callD (cx.at c) (call cx prim) 149 [.t (iv a), .t (iv b)] h = some (.t (iv (cmpI a b)), h) := by
  obtain ⟨h', q⟩ := s149 a b
  exact pureT cb149 hm q rfl rfl
theorem c150 {c : FuncId} (a b : ByteArray) (h : H) (hm : md c 150 = .pure) : callD (cx.at c) (call cx prim) 150 [.t (.str a), .t (.str b)] h = some (.t (iv (cmpB a b)), h) := by
  obtain ⟨h', q⟩ := s150 a b
  exact pureT cb150 hm q rfl rfl
theorem c148 {c : FuncId} (x y : Int) (h : H) (hm : md c 148 = .pure) : callD (cx.at c) (call cx prim) 148 [.t (.slice [iv x, iv y])] h = some (.t (iv (if x = 0 then y else x)), h) := by
  obtain ⟨h', q⟩ := s148 x y
  exact pureT cb148 hm q rfl rfl
def cmpV (n n' : Int) (s s' : ByteArray) : Int := if cmpI n n' = 0 then cmpB s s' else cmpI n n'
theorem s109 (k n : Int) (s : ByteArray) (k' n' : Int) (s' : ByteArray) : ∃ h', call cx prim 109 [.t (vv k n s), .t (vv k' n' s')] .empty = some (.t (iv (cmpV n n' s s')), h') := by
  rw [call_run (cx := cx) rfl Tryz.func109 ok109 nd109 rfl (Nat.le_of_ble_eq_true rfl) rfl rfl]
  have q1 := fun a b h => c149 (c := 109) a b h rfl
  have q2 := fun a b h => c150 (c := 109) a b h rfl
  have q3 := fun a b h => c148 (c := 109) a b h rfl
  simp -implicitDefEqProofs (disch := omega) [q1, q2, q3, cmpV, litSliceD, setsD, List.replicate]
def holdsC (k c : Int) : Bool := if k = 11 then eqI c 0 else if k = 12 then !eqI c 0 else if k = 13 then ltI c 0 else if k = 14 then leI c 0 else if k = 15 then ltI 0 c else if k = 16 then leI 0 c else false
theorem s108 (k c : Int) : ∃ h', call cx prim 108 [.t (iv k), .t (iv c)] .empty = some (.t (.bool (holdsC k c)), h') := by
  rw [call_run (cx := cx) rfl Tryz.func108 ok108 nd108 rfl (Nat.le_of_ble_eq_true rfl) rfl rfl]
  unfold holdsC
  by_cases h1 : k = 11
  · simp -implicitDefEqProofs (disch := omega) [makeMapD, mapUpdateD, lookupD, okD, findT, keyEq, isKeyT, TK.isKey, H.may, H.push, H.set, eqI, h1]
  by_cases h2 : k = 12
  · simp -implicitDefEqProofs (disch := omega) [makeMapD, mapUpdateD, lookupD, okD, findT, keyEq, isKeyT, TK.isKey, H.may, H.push, H.set, eqI, h2]
  by_cases h3 : k = 13
  · simp -implicitDefEqProofs (disch := omega) [makeMapD, mapUpdateD, lookupD, okD, findT, keyEq, isKeyT, TK.isKey, H.may, H.push, H.set, eqI, h3]
  by_cases h4 : k = 14
  · simp -implicitDefEqProofs (disch := omega) [makeMapD, mapUpdateD, lookupD, okD, findT, keyEq, isKeyT, TK.isKey, H.may, H.push, H.set, eqI, h4]
  by_cases h5 : k = 15
  · simp -implicitDefEqProofs (disch := omega) [makeMapD, mapUpdateD, lookupD, okD, findT, keyEq, isKeyT, TK.isKey, H.may, H.push, H.set, eqI, h5]
  by_cases h6 : k = 16
  · simp -implicitDefEqProofs (disch := omega) [makeMapD, mapUpdateD, lookupD, okD, findT, keyEq, isKeyT, TK.isKey, H.may, H.push, H.set, eqI, h6]
  simp -implicitDefEqProofs (disch := omega) [makeMapD, mapUpdateD, lookupD, okD, findT, keyEq, isKeyT, TK.isKey, H.may, H.push, H.set, eqI, h1, h2, h3, h4, h5, h6]
end Go.Proofs.YtaldobgfbkllfaaGreatDoor

namespace Go.Proofs.YtaldobgfbkllfaaGreatDoor
open Vai
variable [Gl]
set_option maxHeartbeats 0
set_option maxRecDepth 100000
abbrev prt (k a b c vk vn : Int) (s nm : ByteArray) (at_ : Int) : T := .agg [iv k, iv a, iv b, iv c, iv vk, iv vn, .str s, .str nm, iv at_]
theorem s106e (ps vs : T) (k a b c vk vn at_ : Int) (s nm : ByteArray) (xk xn e1 : Int) (xs : ByteArray) (he : e1 ≠ 0)
    (hA : ∀ h, callD (cx.at 106) (call cx prim) 35 [.t (.agg [ps, vs]), .t (iv a)] h = some (.tup [.t (vv xk xn xs), .t (iv e1)], h)) :
    ∃ h', call cx prim 106 [.t (.agg [ps, vs]), .t (prt k a b c vk vn s nm at_)] .empty = some (.tup [.t (vv xk xn xs), .t (vv 0 0 ⟨#[]⟩), .t (iv e1)], h') := by
  rw [call_run (cx := cx) rfl Tryz.func106 ok106 nd106 rfl (Nat.le_of_ble_eq_true rfl) rfl rfl]
  simp -implicitDefEqProofs (disch := omega) [hA, he, eqI]
theorem s106 (ps vs : T) (k a b c vk vn at_ : Int) (s nm : ByteArray) (xk xn : Int) (xs : ByteArray) (yk yn e2 : Int) (ys : ByteArray)
    (hA : ∀ h, callD (cx.at 106) (call cx prim) 35 [.t (.agg [ps, vs]), .t (iv a)] h = some (.tup [.t (vv xk xn xs), .t (iv 0)], h))
    (hB : ∀ h, callD (cx.at 106) (call cx prim) 35 [.t (.agg [ps, vs]), .t (iv b)] h = some (.tup [.t (vv yk yn ys), .t (iv e2)], h)) :
    ∃ h', call cx prim 106 [.t (.agg [ps, vs]), .t (prt k a b c vk vn s nm at_)] .empty = some (.tup [.t (vv xk xn xs), .t (vv yk yn ys), .t (iv e2)], h') := by
  rw [call_run (cx := cx) rfl Tryz.func106 ok106 nd106 rfl (Nat.le_of_ble_eq_true rfl) rfl rfl]
  simp -implicitDefEqProofs (disch := omega) [hA, hB, eqI]
end Go.Proofs.YtaldobgfbkllfaaGreatDoor

namespace Go.Proofs.YtaldobgfbkllfaaGreatDoor
open Vai
variable [Gl]
set_option maxHeartbeats 0
set_option maxRecDepth 100000
theorem c105 {c : FuncId} (n : Int) (h : H) (hm : md c 105 = .pure) : callD (cx.at c) (call cx prim) 105 [.t (iv n)] h = some (.t (vv 1 n ⟨#[]⟩), h) := by
  obtain ⟨h', q⟩ := s105 n
  exact pureT cb105 hm q rfl rfl
theorem c107 {c : FuncId} (h : H) (hh : h.marks = []) (hm : md c 107 = .keep) : callD (cx.at c) (call cx prim) 107 [] h = some (.map h.next, h.push numsM) :=
  keepT cb107 hm (s107 h hh)
theorem c144 {c : FuncId} (a b : Int) (h : H) (hm : md c 144 = .pure) : callD (cx.at c) (call cx prim) 144 [.t (iv a), .t (iv b)] h = some (.tup [.t (iv (IntKind.i64.wrap (a + b))), .t (.bool (ltI a (IntKind.i64.wrap (a + b)) == ltI 0 b))], h) := by
  obtain ⟨h', q⟩ := s144 a b
  exact pureT cb144 hm q rfl rfl
end Go.Proofs.YtaldobgfbkllfaaGreatDoor

namespace Go.Proofs.YtaldobgfbkllfaaGreatDoor
open Vai
variable [Gl]
set_option maxHeartbeats 0
set_option maxRecDepth 100000
structure PT where
  k : Int
  a : Int
  b : Int
  c : Int
  vk : Int
  vn : Int
  s : ByteArray
  nm : ByteArray
  at_ : Int
abbrev prP (p : PT) : T := prt p.k p.a p.b p.c p.vk p.vn p.s p.nm p.at_
abbrev mch (ps : List PT) (vs : T) : T := .agg [.slice (ps.map prP), vs]
theorem s35v (ps : List PT) (vs : T) (i : Nat) (x : PT) (hx : ps[i]? = some x) (hk : x.k = 1) :
    ∃ h', call cx prim 35 [.t (mch ps vs), .t (iv i)] .empty = some (.tup [.t (vv x.vk x.vn x.s), .t (iv 0)], h') := by
  rw [call_run (cx := cx) rfl Tryz.func35 ok35 nd35 rfl (Nat.le_of_ble_eq_true rfl) rfl rfl]
  have hg : (ps.map prP)[i]? = some (prP x) := by rw [List.getElem?_map, hx]; rfl
  simp -implicitDefEqProofs (disch := omega) [-List.getElem?_map, hg, hk]
theorem c54 {c : FuncId} {x : T} {vs : List WV} {nm : ByteArray} (h : H) (hx : Slice x (vs.map varW)) (hs : vs.length ≤ 2000000) (hm : md c 54 = .pure) : callD (cx.at c) (call cx prim) 54 [.t x, .t (.str nm)] h = some (.tup [.t (getT vs nm), .t (.bool (getW vs nm).isSome)], h) := by
  obtain ⟨h', q⟩ := s54 (nm := nm) hx hs
  exact pureT cb54 hm q (by unfold getT; cases getW vs nm <;> rfl) rfl
theorem s35n (ps : List PT) (vs : T) (vl : List WV) (hv : Slice vs (vl.map varW)) (hl : vl.length ≤ 2000000) (i : Nat) (x : PT) (hx : ps[i]? = some x) (hk : x.k = 2) :
    ∃ h', call cx prim 35 [.t (mch ps vs), .t (iv i)] .empty = some (.tup [.t (getT vl x.nm), .t (iv 0)], h') := by
  rw [call_run (cx := cx) rfl Tryz.func35 ok35 nd35 rfl (Nat.le_of_ble_eq_true rfl) rfl rfl]
  have hg : (ps.map prP)[i]? = some (prP x) := by rw [List.getElem?_map, hx]; rfl
  have q1 := fun h => c54 (c := 35) (nm := x.nm) h hv hl rfl
  have e0 : eqI x.k 1 = false := eqI_false (by omega)
  cases hgt : getW vl x.nm with
  | none => simp -implicitDefEqProofs (disch := omega) [-List.getElem?_map, hg, hk, q1, getT, hgt]
  | some w => simp -implicitDefEqProofs (disch := omega) [-List.getElem?_map, hg, hk, q1, getT, hgt]
end Go.Proofs.YtaldobgfbkllfaaGreatDoor

namespace Go.Proofs.YtaldobgfbkllfaaGreatDoor
open Vai
variable [Gl]
set_option maxHeartbeats 0
set_option maxRecDepth 100000
theorem c104 {c : FuncId} (b : Bool) (h : H) (hm : md c 104 = .pure) : callD (cx.at c) (call cx prim) 104 [.t (.bool b)] h = some (.t (vv 2 (if b then 1 else 0) ⟨#[]⟩), h) := by
  obtain ⟨h', q⟩ := s104 b
  exact pureT cb104 hm q rfl rfl
def oneV (k xn : Int) (xs : ByteArray) : (Int × Int × ByteArray) × Int :=
  if k = 4 then ((2, if xn = 0 then 1 else 0, ⟨#[]⟩), 0) else if k = 5 then ((1, (xs.size : Int), ⟨#[]⟩), 0) else if xn = -9223372036854775808 then ((0, 0, ⟨#[]⟩), 141) else ((1, -xn, ⟨#[]⟩), 0)
abbrev val3 (v : Int × Int × ByteArray) : T := vv v.1 v.2.1 v.2.2
theorem s63e (m : T) (x : PT) (xk xn e1 : Int) (xs : ByteArray) (he : e1 ≠ 0)
    (hA : ∀ h, callD (cx.at 63) (call cx prim) 35 [.t m, .t (iv x.a)] h = some (.tup [.t (vv xk xn xs), .t (iv e1)], h)) (ps vs : T) (hm : m = .agg [ps, vs]) (hc : ps.cells = [ps]) (hc' : vs.cells = [vs]) :
    ∃ h', call cx prim 63 [.t m, .t (prP x)] .empty = some (.tup [.t (vv 0 0 ⟨#[]⟩), .t (iv e1)], h') := by
  subst hm
  rw [call_run (cx := cx) rfl Tryz.func63 ok63 nd63 rfl (Nat.le_of_ble_eq_true rfl) rfl rfl]
  simp -implicitDefEqProofs (disch := omega) [hA, he, eqI, hc, hc']
theorem s63 (m : T) (x : PT) (xk xn : Int) (xs : ByteArray) (hk : x.k = 3 ∨ x.k = 4 ∨ x.k = 5) (h1 : -9223372036854775808 ≤ xn) (h2 : xn ≤ 9223372036854775807) (hs : xs.size ≤ 9000000000000000000)
    (hA : ∀ h, callD (cx.at 63) (call cx prim) 35 [.t m, .t (iv x.a)] h = some (.tup [.t (vv xk xn xs), .t (iv 0)], h)) (ps vs : T) (hm : m = .agg [ps, vs]) (hc : ps.cells = [ps]) (hc' : vs.cells = [vs]) :
    ∃ h', call cx prim 63 [.t m, .t (prP x)] .empty = some (.tup [.t (val3 (oneV x.k xn xs).1), .t (iv (oneV x.k xn xs).2)], h') := by
  subst hm
  rw [call_run (cx := cx) rfl Tryz.func63 ok63 nd63 rfl (Nat.le_of_ble_eq_true rfl) rfl rfl]
  have q1 := fun b h => c104 (c := 63) b h rfl
  have q2 := fun n h => c105 (c := 63) n h rfl
  rcases hk with hk | hk | hk
  · unfold oneV
    by_cases hn : xn = -9223372036854775808
    · simp -implicitDefEqProofs (disch := omega) [hA, hk, q1, q2, eqI, hn]
    · simp -implicitDefEqProofs (disch := omega) [hA, hk, q1, q2, eqI, hn]
  · unfold oneV
    simp -implicitDefEqProofs (disch := omega) [hA, hk, q1, q2, eqI]
  · unfold oneV
    simp -implicitDefEqProofs (disch := omega) [hA, hk, q1, q2, eqI]
end Go.Proofs.YtaldobgfbkllfaaGreatDoor
