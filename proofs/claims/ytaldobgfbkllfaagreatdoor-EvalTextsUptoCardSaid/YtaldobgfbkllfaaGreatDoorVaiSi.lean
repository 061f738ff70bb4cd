import Derived.Test.YtaldobgfbkllfaaGreatDoorVaiSh
import Derived.Test.YtaldobgfbkllfaaGreatDoorVaiSc
import Derived.KernelRfl
set_option linter.unusedSimpArgs false
set_option linter.unusedVariables false
set_option linter.unusedSectionVars false
namespace Go.Proofs.YtaldobgfbkllfaaGreatDoor
open Vai
variable [Gl]
set_option maxHeartbeats 0
set_option maxRecDepth 100000
theorem s15b {l vs : T} {vl : List WV} (hv : Slice vs (vl.map varW)) (hs : smallW vl) (hb : varsB vl = false) : ∃ h', call cx prim 15 [.t l, .t vs] .empty = some (.tup [.t (vv 0 0 ⟨#[]⟩), .t (iv 2)], h') := by
  rw [call_run (cx := cx) rfl Tryz.func15 ok15 nd15 rfl (Nat.le_of_ble_eq_true rfl) rfl rfl]
  have q1 := fun h => c34 (c := 15) (d := .t vs) (x := vs) h rfl hv hs rfl
  rw [hb] at q1
  simp -implicitDefEqProofs (disch := omega) [q1]
theorem s15k {l vs y : T} {vl : List WV} {K : Int} (hv : Slice vs (vl.map varW)) (hs : smallW vl) (hb : varsB vl = true) (hy : ∀ (c : FuncId) (h : H), md c 17 = .pure → callD (cx.at c) (call cx prim) 17 [.t vs] h = some (.t y, h))
    (hK : ∀ h, callD (cx.at 15) (call cx prim) 26 [.t l, .t y] h = some (.t (iv K), h)) (h0 : K = 0) : ∃ h', call cx prim 15 [.t l, .t vs] .empty = some (.tup [.t (vv 0 0 ⟨#[]⟩), .t (iv 2)], h') := by
  rw [call_run (cx := cx) rfl Tryz.func15 ok15 nd15 rfl (Nat.le_of_ble_eq_true rfl) rfl rfl]
  have q1 := fun h => c34 (c := 15) (d := .t vs) (x := vs) h rfl hv hs rfl
  have q2 := fun h => hy 15 h rfl
  rw [hb] at q1
  simp -implicitDefEqProofs (disch := omega) [q1, q2, hK, h0]
theorem s15 {ps : List PT} {vs y : T} {vl : List WV} {K : Int} (hv : Slice vs (vl.map varW)) (hs : smallW vl) (hb : varsB vl = true) (hy : ∀ (c : FuncId) (h : H), md c 17 = .pure → callD (cx.at c) (call cx prim) 17 [.t vs] h = some (.t y, h))
    (hK : ∀ h, callD (cx.at 15) (call cx prim) 26 [.t (.slice (ps.map prP)), .t y] h = some (.t (iv K), h)) (h0 : K ≠ 0) (hp : PartsOK ps vl) (hS : Sides ps) (hne : 0 < ps.length) (hln : ps.length ≤ 1000000) :
    ∃ h', call cx prim 15 [.t (.slice (ps.map prP)), .t vs] .empty = some (.tup [.t (val3 (evF ps vl ps.length ((ps.length : Int) - 1)).1), .t (iv (evF ps vl ps.length ((ps.length : Int) - 1)).2)], h') := by
  rw [call_run (cx := cx) rfl Tryz.func15 ok15 nd15 rfl (Nat.le_of_ble_eq_true rfl) rfl rfl]
  have q1 := fun h => c34 (c := 15) (d := .t vs) (x := vs) h rfl hv hs rfl
  have q2 := fun h => hy 15 h rfl
  rw [hb] at q1
  have e1 : (((ps.length - 1 : Nat) : Nat) : Int) = (ps.length : Int) - 1 := by omega
  have hof := of_ok hv hs.1 hp hS ps.length (ps.length - 1) (by omega) (by omega)
  rw [e1] at hof
  have q3 := fun h => c35 (c := 15) rfl hof h
  have e2 : eqI K 0 = false := eqI_false h0
  simp -implicitDefEqProofs (disch := omega) [q1, q2, q3, hK, e2, hv.cells1]
end Go.Proofs.YtaldobgfbkllfaaGreatDoor

namespace Go.Proofs.YtaldobgfbkllfaaGreatDoor
open Vai
variable [Gl]
set_option maxHeartbeats 0
set_option maxRecDepth 100000
theorem k19 (s : ByteArray) (ps : List T) (y vs : T) (hy : y.cells = [y]) (hvs : vs.cells = [vs]) (v : V3) (e : Int) (i j : Nat) (h : H) (hmk : h.marks = []) (hi : i < h.next) (hj : j < h.next) (h1 : h.objs i = some (.row 32 1 [.t y])) (h2 : h.objs j = some (.row 23 1 [.t vs]))
    (hP : ∀ h, callD (cx.at 19) (call cx prim) 20 [.t (.str s), .t y] h = some (.tup [.t (.slice ps), .t (.int .i64 0), .t (.int .i64 0)], h))
    (hV : ∀ h, callD (cx.at 19) (call cx prim) 15 [.t (.slice ps), .t vs] h = some (.tup [.t (val3 v), .t (iv e)], h)) :
    ∃ h', callD (cx.at 4) (call cx prim) 19 [.t (.str s), .ptr i 0 0 1, .ptr j 0 0 1] h = some (.tup [.t (iv v.2.1), .t (iv e)], h') ∧ Keeps h h' := by
  have : ∃ h', call cx prim 19 [.t (.str s), .ptr i 0 0 1, .ptr j 0 0 1] h = some (.tup [.t (iv v.2.1), .t (iv e)], h') ∧ Keeps h h' := by
    rw [call_run (cx := cx) rfl Tryz.func19 ok19 nd19 rfl (Nat.le_of_ble_eq_true rfl) rfl rfl]
    simp -implicitDefEqProofs (disch := first | omega | simp [H.push, hmk]) [h1, h2, hP, hV, hy, hvs, hmk, push_setA, push_set, ne0 hi, ne0 hj, ne1 hi, ne1 hj]
    exact Keeps.push _ _
  obtain ⟨h', q, kp⟩ := this
  exact ⟨h', keepT cb19 rfl q, kp⟩
/-! the variables of EvalNumbers -/
abbrev nA : ByteArray := ⟨#[97]⟩
abbrev nB : ByteArray := ⟨#[98]⟩
abbrev abL (a b : Int) : List WV := [(nA, 1, a, ⟨#[]⟩), (nB, 1, b, ⟨#[]⟩)]
abbrev abT (a b : Int) : T := .slice [varW (nA, 1, a, ⟨#[]⟩), varW (nB, 1, b, ⟨#[]⟩)]
theorem ab_slice (a b : Int) : Slice (abT a b) ((abL a b).map varW) := .mk
theorem ab_small (a b : Int) : smallW (abL a b) := ⟨by simp, fun v hv => by
  simp only [List.mem_cons, List.not_mem_nil, or_false] at hv
  rcases hv with rfl | rfl
  · exact ⟨(by decide : nA.size ≤ 1000000000), esz⟩
  · exact ⟨(by decide : nB.size ≤ 1000000000), esz⟩⟩
theorem name_a : nameB nA = true := by decide +kernel
theorem name_b : nameB nB = true := by decide +kernel
theorem less_ab : lessS nA nB = true := by decide +kernel
theorem ab_vars (a b : Int) : varsB (abL a b) = true := by
  have m : ∀ n : Int, mayV 1 n ⟨#[]⟩ = true := fun n => by simp [mayV]
  unfold varsB
  rw [varsA_step (by simp), varsA_step (by simp), varsA_over (by simp)]
  simp [okAt, name_a, name_b, less_ab, m]
theorem ab_decl (a b : Int) : ∃ y, Slice y ((abL a b).map dcT) ∧ (∀ (c : FuncId) (h : H), md c 17 = .pure → callD (cx.at c) (call cx prim) 17 [.t (abT a b)] h = some (.t y, h)) := c17 (ab_slice a b) (by simp)
theorem ab_decl' (a b : Int) (c : FuncId) (h : H) (hm : md c 17 = .pure) : callD (cx.at c) (call cx prim) 17 [.t (abT a b)] h = some (.t (dc2 nA nB 1), h) := by
  obtain ⟨y, hy, q⟩ := ab_decl a b
  have : y = .slice ((abL a b).map dcT) := hy.eq_of_ne (by simp)
  subst this
  exact q c h hm
abbrev vQ (n : ByteArray) (at_ : Int) : PT := ⟨2, 0, 0, 0, 0, 0, ⟨#[]⟩, n, at_⟩
abbrev bQ (k a b at_ : Int) : PT := ⟨k, a, b, 0, 0, 0, ⟨#[]⟩, ⟨#[]⟩, at_⟩
theorem get_a (a b : Int) : getV (abL a b) nA = (1, a, ⟨#[]⟩) := by
  have : eqS nA nA = true := eqS_self
  simp [getV, getW, this]
theorem get_b (a b : Int) : getV (abL a b) nB = (1, b, ⟨#[]⟩) := by
  have h1 : eqS nA nB = false := by decide +kernel
  have h2 : eqS nB nB = true := eqS_self
  simp [getV, getW, h1, h2]
theorem ab_get (a b : Int) (ha : -9223372036854775808 ≤ a ∧ a ≤ 9223372036854775807) (hb : -9223372036854775808 ≤ b ∧ b ≤ 9223372036854775807) (nm : ByteArray) : OKV (getV (abL a b) nm) := by
  unfold getV getW
  simp only [List.find?_cons, List.find?_nil]
  split
  · rename_i v hv
    split at hv
    · cases hv; exact ⟨ha.1, ha.2, esz⟩
    · split at hv
      · cases hv; exact ⟨hb.1, hb.2, esz⟩
      · cases hv
  · exact okz
def ps3 (k : Int) : List PT := [vQ nA 0, vQ nB 4, bQ k 0 1 2]
def ps5 : List PT := [vQ nA 0, vQ nB 4, bQ 9 0 1 2, vQ nB 8, bQ 10 2 3 6]
theorem sides3 (k : Int) (hk : 6 ≤ k ∧ k ≤ 16) : Sides (ps3 k) := fun i x hx => by
  match i with
  | 0 => cases hx; simp
  | 1 => cases hx; simp
  | 2 => cases hx; simp; omega
  | i + 3 => simp [ps3] at hx
theorem sides5 : Sides ps5 := fun i x hx => by
  match i with
  | 0 => cases hx; simp
  | 1 => cases hx; simp
  | 2 => cases hx; simp
  | 3 => cases hx; simp
  | 4 => cases hx; simp
  | i + 5 => simp [ps5] at hx
theorem okp3 (k a b : Int) (ha : -9223372036854775808 ≤ a ∧ a ≤ 9223372036854775807) (hb : -9223372036854775808 ≤ b ∧ b ≤ 9223372036854775807) : PartsOK (ps3 k) (abL a b) :=
  ⟨fun x hx => by simp only [ps3, List.mem_cons, List.not_mem_nil, or_false] at hx; rcases hx with rfl | rfl | rfl <;> exact ⟨(by decide : (-9223372036854775808 : Int) ≤ 0), (by decide : (0 : Int) ≤ 9223372036854775807), esz⟩, ab_get a b ha hb⟩
theorem okp5 (a b : Int) (ha : -9223372036854775808 ≤ a ∧ a ≤ 9223372036854775807) (hb : -9223372036854775808 ≤ b ∧ b ≤ 9223372036854775807) : PartsOK ps5 (abL a b) :=
  ⟨fun x hx => by simp only [ps5, List.mem_cons, List.not_mem_nil, or_false] at hx; rcases hx with rfl | rfl | rfl | rfl | rfl <;> exact ⟨by decide, by decide, esz⟩, ab_get a b ha hb⟩
theorem ev3 (k a b : Int) (hk : 6 ≤ k ∧ k ≤ 16) : evF (ps3 k) (abL a b) 3 2 = twoV k (1, a, ⟨#[]⟩) (1, b, ⟨#[]⟩) := by
  have h1 : ¬ k = 1 := by omega
  have h2 : ¬ k = 2 := by omega
  have h3 : ¬ (k = 3 ∨ k = 4 ∨ k = 5) := by omega
  have h4 : ¬ k = 17 := by omega
  have h5 : ¬ k = 18 := by omega
  have h6 : ¬ k = 19 := by omega
  simp [evF, evB, ps3, get_a, get_b, h1, h2, h3, h4, h5, h6]
theorem ev5 (a b : Int) : evF ps5 (abL a b) 5 4 = if (twoV 9 (1, a, ⟨#[]⟩) (1, b, ⟨#[]⟩)).2 ≠ 0 then (z3, (twoV 9 (1, a, ⟨#[]⟩) (1, b, ⟨#[]⟩)).2) else twoV 10 (twoV 9 (1, a, ⟨#[]⟩) (1, b, ⟨#[]⟩)).1 (1, b, ⟨#[]⟩) := by
  simp [evF, evB, ps5, get_a, get_b]
end Go.Proofs.YtaldobgfbkllfaaGreatDoor

namespace Go.Proofs.YtaldobgfbkllfaaGreatDoor
open Vai
set_option maxHeartbeats 0
abbrev In64 (n : Int) : Prop := -9223372036854775808 ≤ n ∧ n ≤ 9223372036854775807
instance (n : Int) : Decidable (In64 n) := inferInstanceAs (Decidable (_ ∧ _))
theorem wrap_cong (n : Int) : ∃ q : Int, IntKind.i64.wrap n = n + 18446744073709551616 * q := by
  have e : (2 : Int) ^ (64 : Nat) = 18446744073709551616 := by decide
  have e' : (2 : Int) ^ (64 - 1 : Nat) = 9223372036854775808 := by decide
  simp only [IntKind.wrap, IntKind.bits, IntKind.signed, Bool.true_and, decide_eq_true_eq, e, e']
  split
  · exact ⟨-(n / 18446744073709551616) - 1, by omega⟩
  · exact ⟨-(n / 18446744073709551616), by omega⟩
theorem wrap_in {n : Int} (h : In64 n) : IntKind.i64.wrap n = n := wrap_i64 h.1 h.2
theorem add_exact {a b : Int} (ha : In64 a) (hb : In64 b) : if In64 (a + b) then numV 9 a b = (a + b, true) else (numV 9 a b).2 = false := by
  split
  · rename_i h
    simp only [numV, wrap_in h, if_true]
    congr 1
    by_cases h1 : a < a + b
    · rw [ltI_true h1, ltI_true (by omega)]; rfl
    · rw [ltI_false (by omega), ltI_false (by omega)]; rfl
  · rename_i h
    simp only [numV, if_true]
    obtain ⟨q, hq⟩ := wrap_cong (a + b)
    have hr := wrap_range (a + b)
    generalize IntKind.i64.wrap (a + b) = w at hq hr ⊢
    simp only [In64] at h ha hb
    by_cases h1 : 0 < b
    · rw [ltI_true (a := 0) h1, ltI_false (by omega)]; rfl
    · rw [ltI_false (a := 0) (by omega), ltI_true (by omega)]; rfl
theorem sub_exact {a b : Int} (ha : In64 a) (hb : In64 b) (h : In64 (a - b)) : numV 10 a b = (a - b, true) := by
  simp only [numV, wrap_in h]
  rw [if_neg (by decide), if_pos trivial]
  congr 1
  by_cases h1 : a - b < a
  · rw [ltI_true h1, ltI_true (by omega)]; rfl
  · rw [ltI_false (by omega), ltI_false (by omega)]; rfl
theorem natAbs_lt {r b : Int} (h : r.natAbs < b.natAbs) (hb : In64 b) : -9223372036854775808 < r ∧ r < 9223372036854775808 := by
  simp only [In64] at hb; omega
theorem mul_exact {a b : Int} (ha : In64 a) (hb : In64 b) : if In64 (a * b) then numV 6 a b = (a * b, true) else (numV 6 a b).2 = false := by
  have e : numV 6 a b = mulV a b := rfl
  rw [e]
  unfold mulV
  split
  · rename_i h
    by_cases hz : a = 0 ∨ b = 0
    · rw [if_pos hz]
      rcases hz with rfl | rfl <;> simp
    · rw [if_neg hz]
      have hb0 : b ≠ 0 := fun h => hz (.inr h)
      rw [wrap_in h, Int.mul_tdiv_cancel _ hb0, wrap_in ha, eqI_self]
      congr 1
      cases h1 : eqI a (-1) <;> cases h2 : eqI b minI <;> cases h3 : eqI b (-1) <;> cases h4 : eqI a minI <;> simp only [eqI, decide_eq_true_eq, decide_eq_false_iff_not] at h1 h2 h3 h4 <;> first | rfl | (exfalso; rw [h1, h2] at h; exact absurd h.2 (by decide)) | (exfalso; rw [h3, h4] at h; exact absurd h.2 (by decide))
  · rename_i h
    have hz : ¬ (a = 0 ∨ b = 0) := by
      rintro (rfl | rfl)
      · simp [In64] at h
      · simp [In64] at h
    rw [if_neg hz]
    have hb0 : b ≠ 0 := fun h => hz (.inr h)
    cases hB : ((eqI (IntKind.i64.wrap ((IntKind.i64.wrap (a * b)).tdiv b)) a && !(eqI a (-1) && eqI b minI)) && !(eqI b (-1) && eqI a minI)) with
    | false => rfl
    | true =>
      exfalso
      simp only [Bool.and_eq_true, Bool.not_eq_true', Bool.and_eq_false_iff, eqI, decide_eq_true_eq, decide_eq_false_iff_not] at hB
      obtain ⟨⟨h1, h2⟩, h3⟩ := hB
      obtain ⟨q, hq⟩ := wrap_cong (a * b)
      have hr := wrap_range (a * b)
      generalize IntKind.i64.wrap (a * b) = c at h1 hq hr
      by_cases hmin : c = -9223372036854775808 ∧ b = -1
      · obtain ⟨rfl, rfl⟩ := hmin
        have e1 : IntKind.i64.wrap (Int.tdiv (-9223372036854775808) (-1)) = -9223372036854775808 := by decide
        rw [e1] at h1
        subst h1
        rcases h3 with h3 | h3
        · exact h3 rfl
        · exact h3 rfl
      · have ht : In64 (c.tdiv b) := by
          have h5 : (c.tdiv b).natAbs ≤ c.natAbs := by
            rw [Int.natAbs_tdiv]; exact Nat.div_le_self _ _
          simp only [In64] at *
          by_cases h6 : c.tdiv b = 9223372036854775808
          · exfalso
            have h7 : c = -9223372036854775808 := by omega
            have h8 := Int.mul_tdiv_add_tmod c b
            rw [h6] at h8
            have h9 : (c.tmod b).natAbs < b.natAbs := by
              rw [Int.natAbs_tmod]; exact Nat.mod_lt _ (by omega)
            have h10 : b = -1 := by omega
            exact hmin ⟨h7, h10⟩
          · omega
        rw [wrap_in ht] at h1
        have h8 := Int.mul_tdiv_add_tmod c b
        rw [h1] at h8
        have h9 : (c.tmod b).natAbs < b.natAbs := by
          rw [Int.natAbs_tmod]; exact Nat.mod_lt _ (by omega)
        have h10 := natAbs_lt h9 hb
        have h11 : b * a = a * b := Int.mul_comm _ _
        rw [h11] at h8
        generalize a * b = m at *
        simp only [In64] at h
        omega
end Go.Proofs.YtaldobgfbkllfaaGreatDoor

namespace Go.Proofs.YtaldobgfbkllfaaGreatDoor
open Vai
variable [Gl]
set_option maxHeartbeats 0
set_option maxRecDepth 100000
section
variable {vs y l : T} {s : ByteArray} {at_ e K kd : Int} (hy : ∀ (c : FuncId) (h : H), md c 17 = .pure → callD (cx.at c) (call cx prim) 17 [.t vs] h = some (.t y, h))
  (hP : ∀ h, callD (cx.at 43) (call cx prim) 20 [.t (.str s), .t y] h = some (.tup [.t l, .t (iv at_), .t (iv e)], h))
include hy hP
theorem s43e (he : e ≠ 0) : ∃ h', call cx prim 43 [.t (.str s), .t vs, .t (iv kd)] .empty = some (.tup [.t (val3 z3), .t (iv e)], h') := by
  rw [call_run (cx := cx) rfl Tryz.func43 ok43 nd43 rfl (Nat.le_of_ble_eq_true rfl) rfl rfl]
  have q1 := fun h => hy 43 h rfl
  have e1 : eqI e 0 = false := eqI_false he
  simp -implicitDefEqProofs (disch := omega) [q1, hP, e1]
theorem s43k (he : e = 0) (hK : ∀ h, callD (cx.at 43) (call cx prim) 26 [.t l, .t y] h = some (.t (iv K), h)) (hk : K ≠ kd) : ∃ h', call cx prim 43 [.t (.str s), .t vs, .t (iv kd)] .empty = some (.tup [.t (val3 z3), .t (iv 132)], h') := by
  rw [call_run (cx := cx) rfl Tryz.func43 ok43 nd43 rfl (Nat.le_of_ble_eq_true rfl) rfl rfl]
  have q1 := fun h => hy 43 h rfl
  subst he
  have e1 : eqI K kd = false := eqI_false hk
  simp -implicitDefEqProofs (disch := omega) [q1, hP, hK, e1]
theorem s43 (he : e = 0) (hK : ∀ h, callD (cx.at 43) (call cx prim) 26 [.t l, .t y] h = some (.t (iv K), h)) (hk : K = kd) {v : V3} {er : Int} (hV : ∀ h, callD (cx.at 43) (call cx prim) 15 [.t l, .t vs] h = some (.tup [.t (val3 v), .t (iv er)], h)) :
    ∃ h', call cx prim 43 [.t (.str s), .t vs, .t (iv kd)] .empty = some (.tup [.t (val3 v), .t (iv er)], h') := by
  rw [call_run (cx := cx) rfl Tryz.func43 ok43 nd43 rfl (Nat.le_of_ble_eq_true rfl) rfl rfl]
  have q1 := fun h => hy 43 h rfl
  subst he hk
  simp -implicitDefEqProofs (disch := omega) [q1, hP, hK, hV]
end
theorem c43 {c : FuncId} {s : ByteArray} {vs : T} {kd er : Int} {v : V3} (hm : md c 43 = .pure) (hq : ∃ h', call cx prim 43 [.t (.str s), .t vs, .t (iv kd)] .empty = some (.tup [.t (val3 v), .t (iv er)], h')) (h : H) :
    callD (cx.at c) (call cx prim) 43 [.t (.str s), .t vs, .t (iv kd)] h = some (.tup [.t (val3 v), .t (iv er)], h) := by
  obtain ⟨h', q⟩ := hq
  exact pureT cb43 hm q rfl rfl
theorem s21b {s : ByteArray} {vs : T} {vl : List WV} (hv : Slice vs (vl.map varW)) (hs : smallW vl) (hb : varsB vl = false) : ∃ h', call cx prim 21 [.t (.str s), .t vs] .empty = some (.tup [.t (.bool false), .t (iv 2)], h') := by
  rw [call_run (cx := cx) rfl Tryz.func21 ok21 nd21 rfl (Nat.le_of_ble_eq_true rfl) rfl rfl]
  have q1 := fun h => c34 (c := 21) (d := .t vs) (x := vs) h rfl hv hs rfl
  rw [hb] at q1
  simp -implicitDefEqProofs (disch := omega) [q1]
theorem s21 {s : ByteArray} {vs : T} {vl : List WV} (hv : Slice vs (vl.map varW)) (hs : smallW vl) (hb : varsB vl = true) {v : V3} {er : Int} (hF : ∀ h, callD (cx.at 21) (call cx prim) 43 [.t (.str s), .t vs, .t (iv 2)] h = some (.tup [.t (val3 v), .t (iv er)], h)) :
    ∃ h', call cx prim 21 [.t (.str s), .t vs] .empty = some (.tup [.t (.bool (eqI v.2.1 1)), .t (iv er)], h') := by
  rw [call_run (cx := cx) rfl Tryz.func21 ok21 nd21 rfl (Nat.le_of_ble_eq_true rfl) rfl rfl]
  have q1 := fun h => c34 (c := 21) (d := .t vs) (x := vs) h rfl hv hs rfl
  rw [hb] at q1
  simp -implicitDefEqProofs (disch := omega) [q1, hF]
theorem c21 {c : FuncId} {s : ByteArray} {vs : T} {er : Int} {b : Bool} (hm : md c 21 = .pure) (hq : ∃ h', call cx prim 21 [.t (.str s), .t vs] .empty = some (.tup [.t (.bool b), .t (iv er)], h')) (h : H) :
    callD (cx.at c) (call cx prim) 21 [.t (.str s), .t vs] h = some (.tup [.t (.bool b), .t (iv er)], h) := by
  obtain ⟨h', q⟩ := hq
  exact pureT cb21 hm q rfl rfl
end Go.Proofs.YtaldobgfbkllfaaGreatDoor

namespace Go.Proofs.YtaldobgfbkllfaaGreatDoor
open Vai
variable [Gl]
set_option maxHeartbeats 0
set_option maxRecDepth 100000
/-- What a closed formula of three parts comes to. -/
theorem of3 (k a b : Int) (hk : 6 ≤ k ∧ k ≤ 16) (ha : In64 a) (hb : In64 b) (s : ByteArray) (K : Int) (hK : K ≠ 0)
    (hp : ∀ h, callD (cx.at 19) (call cx prim) 20 [.t (.str s), .t (dc2 nA nB 1)] h = some (.tup [.t (.slice ((ps3 k).map prP)), .t (.int .i64 0), .t (.int .i64 0)], h))
    (hk2 : ∀ h, callD (cx.at 15) (call cx prim) 26 [.t (.slice ((ps3 k).map prP)), .t (dc2 nA nB 1)] h = some (.t (iv K), h)) (i j : Nat) (h : H) (hmk : h.marks = []) (hi : i < h.next) (hj : j < h.next) (h1 : h.objs i = some (.row 32 1 [.t (dc2 nA nB 1)])) (h2 : h.objs j = some (.row 23 1 [.t (abT a b)])) :
    ∃ h', callD (cx.at 4) (call cx prim) 19 [.t (.str s), .ptr i 0 0 1, .ptr j 0 0 1] h = some (.tup [.t (iv (twoV k (1, a, ⟨#[]⟩) (1, b, ⟨#[]⟩)).1.2.1), .t (iv (twoV k (1, a, ⟨#[]⟩) (1, b, ⟨#[]⟩)).2)], h') ∧ Keeps h h' := by
  have q := s15 (ps := ps3 k) (ab_slice a b) (ab_small a b) (ab_vars a b) (ab_decl' a b) hk2 hK (okp3 k a b ha hb) (sides3 k hk) (by simp [ps3]) (by simp [ps3])
  have e : evF (ps3 k) (abL a b) (ps3 k).length (((ps3 k).length : Int) - 1) = evF (ps3 k) (abL a b) 3 2 := rfl
  rw [e, ev3 k a b hk] at q
  obtain ⟨h', q⟩ := q
  exact k19 s _ (dc2 nA nB 1) (abT a b) rfl rfl _ _ i j h hmk hi hj h1 h2 hp fun h => pureT cb15 rfl q rfl rfl
theorem of5 (a b : Int) (ha : In64 a) (hb : In64 b) (s : ByteArray) (K : Int) (hK : K ≠ 0)
    (hp : ∀ h, callD (cx.at 19) (call cx prim) 20 [.t (.str s), .t (dc2 nA nB 1)] h = some (.tup [.t (.slice (ps5.map prP)), .t (.int .i64 0), .t (.int .i64 0)], h))
    (hk2 : ∀ h, callD (cx.at 15) (call cx prim) 26 [.t (.slice (ps5.map prP)), .t (dc2 nA nB 1)] h = some (.t (iv K), h)) (i j : Nat) (h : H) (hmk : h.marks = []) (hi : i < h.next) (hj : j < h.next) (h1 : h.objs i = some (.row 32 1 [.t (dc2 nA nB 1)])) (h2 : h.objs j = some (.row 23 1 [.t (abT a b)])) (v : V3) (er : Int) (hv : evF ps5 (abL a b) 5 4 = (v, er)) :
    ∃ h', callD (cx.at 4) (call cx prim) 19 [.t (.str s), .ptr i 0 0 1, .ptr j 0 0 1] h = some (.tup [.t (iv v.2.1), .t (iv er)], h') ∧ Keeps h h' := by
  have q := s15 (ps := ps5) (ab_slice a b) (ab_small a b) (ab_vars a b) (ab_decl' a b) hk2 hK (okp5 a b ha hb) sides5 (by simp [ps5]) (by simp [ps5])
  have e : evF ps5 (abL a b) ps5.length ((ps5.length : Int) - 1) = evF ps5 (abL a b) 5 4 := rfl
  rw [e, hv] at q
  obtain ⟨h', q⟩ := q
  exact k19 s _ (dc2 nA nB 1) (abT a b) rfl rfl _ _ i j h hmk hi hj h1 h2 hp fun h => pureT cb15 rfl q rfl rfl
def sum2 (a b : Int) : Int × Int := if In64 (a + b) then (a + b, 0) else (0, 141)
def back2 (a b : Int) : Int × Int := if In64 (a + b) then (a, 0) else (0, 141)
def mul2 (a b : Int) : Int × Int := if In64 (a * b) then (a * b, 0) else (0, 141)
def div2 (a b : Int) : Int × Int := if b = 0 then (0, 142) else if a = -9223372036854775808 ∧ b = -1 then (0, 141) else (a.tdiv b, 0)
def rem2 (a b : Int) : Int × Int := if b = 0 then (0, 142) else (a.tmod b, 0)
theorem v_sum {a b : Int} (ha : In64 a) (hb : In64 b) : ((twoV 9 (1, a, ⟨#[]⟩) (1, b, ⟨#[]⟩)).1.2.1, (twoV 9 (1, a, ⟨#[]⟩) (1, b, ⟨#[]⟩)).2) = sum2 a b := by
  have h := add_exact ha hb
  unfold sum2
  split at h
  · rename_i hi
    rw [if_pos hi]
    simp [twoV, h]
  · rename_i hi
    rw [if_neg hi]
    simp [twoV, h]
theorem v_mul {a b : Int} (ha : In64 a) (hb : In64 b) : ((twoV 6 (1, a, ⟨#[]⟩) (1, b, ⟨#[]⟩)).1.2.1, (twoV 6 (1, a, ⟨#[]⟩) (1, b, ⟨#[]⟩)).2) = mul2 a b := by
  have h := mul_exact ha hb
  unfold mul2
  split at h
  · rename_i hi
    rw [if_pos hi]
    simp [twoV, h]
  · rename_i hi
    rw [if_neg hi]
    simp [twoV, h]
theorem tdiv_in {a b : Int} (ha : In64 a) (hb : In64 b) (hb0 : b ≠ 0) (hx : ¬ (a = -9223372036854775808 ∧ b = -1)) : In64 (a.tdiv b) := by
  have h5 : (a.tdiv b).natAbs ≤ a.natAbs := by
    rw [Int.natAbs_tdiv]; exact Nat.div_le_self _ _
  simp only [In64] at *
  by_cases h6 : a.tdiv b = 9223372036854775808
  · exfalso
    have h7 : a = -9223372036854775808 := by omega
    have h8 := Int.mul_tdiv_add_tmod a b
    rw [h6] at h8
    have h9 : (a.tmod b).natAbs < b.natAbs := by
      rw [Int.natAbs_tmod]; exact Nat.mod_lt _ (by omega)
    have h10 : b = -1 := by omega
    exact hx ⟨h7, h10⟩
  · omega
theorem v_div {a b : Int} (ha : In64 a) (hb : In64 b) : ((twoV 7 (1, a, ⟨#[]⟩) (1, b, ⟨#[]⟩)).1.2.1, (twoV 7 (1, a, ⟨#[]⟩) (1, b, ⟨#[]⟩)).2) = div2 a b := by
  unfold div2
  by_cases h0 : b = 0
  · simp [twoV, h0]
  · rw [if_neg h0]
    by_cases hx : a = -9223372036854775808 ∧ b = -1
    · obtain ⟨rfl, rfl⟩ := hx
      simp [twoV, numV, eqI]
    · rw [if_neg hx]
      have hw := wrap_in (tdiv_in ha hb h0 hx)
      have hB : (eqI a (-9223372036854775808) && eqI b (-1)) = false := by
        cases h1 : eqI a (-9223372036854775808) <;> cases h2 : eqI b (-1) <;> simp only [eqI, decide_eq_true_eq, decide_eq_false_iff_not] at h1 h2 <;> first | rfl | exact absurd ⟨h1, h2⟩ hx
      simp [twoV, numV, h0, hw, hB]
theorem v_rem {a b : Int} : ((twoV 8 (1, a, ⟨#[]⟩) (1, b, ⟨#[]⟩)).1.2.1, (twoV 8 (1, a, ⟨#[]⟩) (1, b, ⟨#[]⟩)).2) = rem2 a b := by
  unfold rem2
  by_cases h0 : b = 0
  · simp [twoV, h0]
  · simp [twoV, numV, h0]
theorem v_back {a b : Int} (ha : In64 a) (hb : In64 b) : ∃ v, evF ps5 (abL a b) 5 4 = (v, (back2 a b).2) ∧ v.2.1 = (back2 a b).1 := by
  rw [ev5]
  have h := add_exact ha hb
  unfold back2
  split at h
  · rename_i hi
    have e1 : twoV 9 (1, a, ⟨#[]⟩) (1, b, ⟨#[]⟩) = ((1, a + b, ⟨#[]⟩), 0) := by simp [twoV, h]
    rw [e1, if_pos hi]
    have h2 := sub_exact (a := a + b) (b := b) hi hb (by simp only [In64] at *; omega)
    have e3 : a + b - b = a := by omega
    rw [e3] at h2
    exact ⟨(1, a, ⟨#[]⟩), by simp [twoV, h2], rfl⟩
  · rename_i hi
    have e1 : (twoV 9 (1, a, ⟨#[]⟩) (1, b, ⟨#[]⟩)).2 = 141 := by simp [twoV, h]
    rw [e1, if_neg hi]
    exact ⟨z3, by simp, rfl⟩
end Go.Proofs.YtaldobgfbkllfaaGreatDoor

namespace Go.Proofs.YtaldobgfbkllfaaGreatDoor
open Vai
variable [Gl]
set_option maxHeartbeats 0
set_option maxRecDepth 100000
theorem tp1 : snapEnd (callQ cx okT primQ 1000 20 [.t (.str ⟨#[120, 32, 43, 32, 121]⟩), .t (dc2 ⟨#[120]⟩ ⟨#[121]⟩ 3)] .empty) = some (.tup [.t (.slice [vP ⟨#[120]⟩ 0, vP ⟨#[121]⟩ 4, bP 9 0 1 2]), .t (.int .i64 0), .t (.int .i64 0)]) := by kernel_rfl
theorem tp1k : snapEnd (callQ cx okT primQ 1000 26 [.t (.slice [vP ⟨#[120]⟩ 0, vP ⟨#[121]⟩ 4, bP 9 0 1 2]), .t (dc2 ⟨#[120]⟩ ⟨#[121]⟩ 3)] .empty) = some (.t (.int .i64 3)) := by kernel_rfl
theorem tp2 : snapEnd (callQ cx okT primQ 1000 20 [.t (.str ⟨#[120, 32, 60, 32, 121]⟩), .t (dc2 ⟨#[120]⟩ ⟨#[121]⟩ 3)] .empty) = some (.tup [.t (.slice [vP ⟨#[120]⟩ 0, vP ⟨#[121]⟩ 4, bP 13 0 1 2]), .t (.int .i64 0), .t (.int .i64 0)]) := by kernel_rfl
theorem tp2k : snapEnd (callQ cx okT primQ 1000 26 [.t (.slice [vP ⟨#[120]⟩ 0, vP ⟨#[121]⟩ 4, bP 13 0 1 2]), .t (dc2 ⟨#[120]⟩ ⟨#[121]⟩ 3)] .empty) = some (.t (.int .i64 2)) := by kernel_rfl
theorem tp3 : snapEnd (callQ cx okT primQ 1000 20 [.t (.str ⟨#[108, 101, 110, 40, 120, 32, 43, 32, 121, 41, 32, 61, 61, 32, 108, 101, 110, 40, 120, 41, 32, 43, 32, 108, 101, 110, 40, 121, 41]⟩), .t (dc2 ⟨#[120]⟩ ⟨#[121]⟩ 3)] .empty) = some (.tup [.t (.slice [vP ⟨#[120]⟩ 4, vP ⟨#[121]⟩ 8, bP 9 0 1 6, bP 5 2 0 0, vP ⟨#[120]⟩ 18, bP 5 4 0 14, vP ⟨#[121]⟩ 27, bP 5 6 0 23, bP 9 5 7 21, bP 11 3 8 11]), .t (.int .i64 0), .t (.int .i64 0)]) := by kernel_rfl
theorem tp3k : snapEnd (callQ cx okT primQ 1000 26 [.t (.slice [vP ⟨#[120]⟩ 4, vP ⟨#[121]⟩ 8, bP 9 0 1 6, bP 5 2 0 0, vP ⟨#[120]⟩ 18, bP 5 4 0 14, vP ⟨#[121]⟩ 27, bP 5 6 0 23, bP 9 5 7 21, bP 11 3 8 11]), .t (dc2 ⟨#[120]⟩ ⟨#[121]⟩ 3)] .empty) = some (.t (.int .i64 2)) := by kernel_rfl
end Go.Proofs.YtaldobgfbkllfaaGreatDoor
