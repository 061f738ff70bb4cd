import Derived.Test.YtaldobgfbkllfaaGreatDoorVaiSi
import Derived.Test.YtaldobgfbkllfaaGreatDoorVaiD
import Derived.Test.YtaldobgfbkllfaaGreatDoorVaiSc
import Derived.Test.YtaldobgfbkllfaaGreatDoorCards
import Derived.Test.YtaldobgfbkllfaaGreatDoorTie
import Derived.WalkKit
import Derived.ProofKit
import Derived.OpenShut
import Derived.JoinedCond
import Derived.Deep.DeepHandedRow
import Derived.Deep.DeepWitnessRowRef
import Derived.Lib.LaidIn
import Derived.Lib.LaidTab
import Derived.Stop.LaidErr
set_option linter.unusedSimpArgs false
set_option linter.unusedVariables false
set_option linter.unusedSectionVars false
namespace Go.Proofs.YtaldobgfbkllfaaGreatDoor
open Vai
variable [Gl]
set_option maxHeartbeats 0
set_option maxRecDepth 100000
abbrev nX : ByteArray := ⟨#[120]⟩
abbrev nY : ByteArray := ⟨#[121]⟩
abbrev xyL (a b : ByteArray) : List WV := [(nX, 3, 0, a), (nY, 3, 0, b)]
abbrev xyT (a b : ByteArray) : T := .slice [varW (nX, 3, 0, a), varW (nY, 3, 0, b)]
theorem xy_slice (a b : ByteArray) : Slice (xyT a b) ((xyL a b).map varW) := .mk
theorem xy_small {a b : ByteArray} (ha : a.size ≤ 1000000000) (hb : b.size ≤ 1000000000) : smallW (xyL a b) := ⟨by simp, fun v hv => by
  simp only [List.mem_cons, List.not_mem_nil, or_false] at hv
  rcases hv with rfl | rfl
  · exact ⟨(by decide : nX.size ≤ 1000000000), ha⟩
  · exact ⟨(by decide : nY.size ≤ 1000000000), hb⟩⟩
theorem name_x : nameB nX = true := by decide +kernel
theorem name_y : nameB nY = true := by decide +kernel
theorem less_xy : lessS nX nY = true := by decide +kernel
theorem xy_vars {a b : ByteArray} (ha : mayV 3 0 a = true) (hb : mayV 3 0 b = true) : varsB (xyL a b) = true := by
  unfold varsB
  rw [varsA_step (by simp), varsA_step (by simp), varsA_over (by simp)]
  simp [okAt, name_x, name_y, less_xy, ha, hb]
theorem xy_decl' (a b : ByteArray) (c : FuncId) (h : H) (hm : md c 17 = .pure) : callD (cx.at c) (call cx prim) 17 [.t (xyT a b)] h = some (.t (dc2 nX nY 3), h) := by
  obtain ⟨y, hy, q⟩ := c17 (xy_slice a b) (by simp)
  have : y = .slice ((xyL a b).map dcT) := hy.eq_of_ne (by simp)
  subst this
  exact q c h hm
theorem get_x (a b : ByteArray) : getV (xyL a b) nX = (3, 0, a) := by
  have : eqS nX nX = true := eqS_self
  simp [getV, getW, this]
theorem get_y (a b : ByteArray) : getV (xyL a b) nY = (3, 0, b) := by
  have h1 : eqS nX nY = false := by decide +kernel
  have h2 : eqS nY nY = true := eqS_self
  simp [getV, getW, h1, h2]
theorem xy_get {a b : ByteArray} (ha : a.size ≤ 1000000000) (hb : b.size ≤ 1000000000) (nm : ByteArray) : OKV (getV (xyL a b) nm) := by
  unfold getV getW
  simp only [List.find?_cons, List.find?_nil]
  split
  · rename_i v hv
    split at hv
    · cases hv; exact ⟨(by decide : (-9223372036854775808 : Int) ≤ 0), (by decide : (0 : Int) ≤ 9223372036854775807), ha⟩
    · split at hv
      · cases hv; exact ⟨(by decide : (-9223372036854775808 : Int) ≤ 0), (by decide : (0 : Int) ≤ 9223372036854775807), hb⟩
      · cases hv
  · exact okz
def qs3 (k : Int) : List PT := [vQ nX 0, vQ nY 4, bQ k 0 1 2]
def qs9 : List PT := [vQ nX 4, vQ nY 8, bQ 9 0 1 6, bQ 5 2 0 0, vQ nX 18, bQ 5 4 0 14, vQ nY 27, bQ 5 6 0 23, bQ 9 5 7 21, bQ 11 3 8 11]
theorem sidesq3 (k : Int) (hk : 6 ≤ k ∧ k ≤ 16) : Sides (qs3 k) := fun i x hx => by
  match i with
  | 0 => cases hx; simp
  | 1 => cases hx; simp
  | 2 => cases hx; simp; omega
  | i + 3 => simp [qs3] at hx
theorem sidesq9 : Sides qs9 := fun i x hx => by
  match i with
  | 0 => cases hx; simp
  | 1 => cases hx; simp
  | 2 => cases hx; simp
  | 3 => cases hx; simp
  | 4 => cases hx; simp
  | 5 => cases hx; simp
  | 6 => cases hx; simp
  | 7 => cases hx; simp
  | 8 => cases hx; simp
  | 9 => cases hx; simp
  | i + 10 => simp [qs9] at hx
theorem okq3 (k : Int) {a b : ByteArray} (ha : a.size ≤ 1000000000) (hb : b.size ≤ 1000000000) : PartsOK (qs3 k) (xyL a b) :=
  ⟨fun x hx => by simp only [qs3, List.mem_cons, List.not_mem_nil, or_false] at hx; rcases hx with rfl | rfl | rfl <;> exact ⟨(by decide : (-9223372036854775808 : Int) ≤ 0), (by decide : (0 : Int) ≤ 9223372036854775807), esz⟩, xy_get ha hb⟩
theorem okq9 {a b : ByteArray} (ha : a.size ≤ 1000000000) (hb : b.size ≤ 1000000000) : PartsOK qs9 (xyL a b) :=
  ⟨fun x hx => by simp only [qs9, List.mem_cons, List.not_mem_nil, or_false] at hx; rcases hx with rfl | rfl | rfl | rfl | rfl | rfl | rfl | rfl | rfl | rfl <;> exact ⟨(by decide : (-9223372036854775808 : Int) ≤ 0), (by decide : (0 : Int) ≤ 9223372036854775807), esz⟩, xy_get ha hb⟩
theorem evq3 (k : Int) (a b : ByteArray) (hk : 6 ≤ k ∧ k ≤ 16) : evF (qs3 k) (xyL a b) 3 2 = twoV k (3, 0, a) (3, 0, b) := by
  have h1 : ¬ k = 1 := by omega
  have h2 : ¬ k = 2 := by omega
  have h3 : ¬ (k = 3 ∨ k = 4 ∨ k = 5) := by omega
  have h4 : ¬ k = 17 := by omega
  have h5 : ¬ k = 18 := by omega
  have h6 : ¬ k = 19 := by omega
  simp [evF, evB, qs3, get_x, get_y, h1, h2, h3, h4, h5, h6]
theorem evq9 (a b : ByteArray) : evF qs9 (xyL a b) 10 9 = if (twoV 9 (3, 0, a) (3, 0, b)).2 ≠ 0 then (z3, (twoV 9 (3, 0, a) (3, 0, b)).2) else
    if (twoV 9 (1, (a.size : Int), ⟨#[]⟩) (1, (b.size : Int), ⟨#[]⟩)).2 ≠ 0 then (z3, (twoV 9 (1, (a.size : Int), ⟨#[]⟩) (1, (b.size : Int), ⟨#[]⟩)).2) else
    twoV 11 (1, ((twoV 9 (3, 0, a) (3, 0, b)).1.2.2.size : Int), ⟨#[]⟩) (twoV 9 (1, (a.size : Int), ⟨#[]⟩) (1, (b.size : Int), ⟨#[]⟩)).1 := by
  simp [evF, evB, qs9, get_x, get_y, oneV]
  by_cases h : (twoV 9 (3, 0, a) (3, 0, b)).snd = 0
  · simp [h]
  · simp [h]
end Go.Proofs.YtaldobgfbkllfaaGreatDoor

namespace Go.Proofs.YtaldobgfbkllfaaGreatDoor
open Vai
variable [Gl]
set_option maxHeartbeats 0
set_option maxRecDepth 100000
theorem qt1 (c : FuncId) (hm : md c 20 = .pure) (h : H) : callD (cx.at c) (call cx prim) 20 [.t (.str ⟨#[120, 32, 43, 32, 121]⟩), .t (dc2 nX nY 3)] h = some (.tup [.t (.slice ((qs3 9).map prP)), .t (.int .i64 0), .t (.int .i64 0)], h) := pureQ2 (cx := cx) primLe okQ (c := c) cb20 hm tp1 h rfl
theorem qt1k (c : FuncId) (hm : md c 26 = .pure) (h : H) : callD (cx.at c) (call cx prim) 26 [.t (.slice ((qs3 9).map prP)), .t (dc2 nX nY 3)] h = some (.t (iv 3), h) := pureQ2 (cx := cx) primLe okQ (c := c) cb26 hm tp1k h rfl
theorem qt2 (c : FuncId) (hm : md c 20 = .pure) (h : H) : callD (cx.at c) (call cx prim) 20 [.t (.str ⟨#[120, 32, 60, 32, 121]⟩), .t (dc2 nX nY 3)] h = some (.tup [.t (.slice ((qs3 13).map prP)), .t (.int .i64 0), .t (.int .i64 0)], h) := pureQ2 (cx := cx) primLe okQ (c := c) cb20 hm tp2 h rfl
theorem qt2k (c : FuncId) (hm : md c 26 = .pure) (h : H) : callD (cx.at c) (call cx prim) 26 [.t (.slice ((qs3 13).map prP)), .t (dc2 nX nY 3)] h = some (.t (iv 2), h) := pureQ2 (cx := cx) primLe okQ (c := c) cb26 hm tp2k h rfl
abbrev lenF : ByteArray := ⟨#[108, 101, 110, 40, 120, 32, 43, 32, 121, 41, 32, 61, 61, 32, 108, 101, 110, 40, 120, 41, 32, 43, 32, 108, 101, 110, 40, 121, 41]⟩
theorem qt3 (c : FuncId) (hm : md c 20 = .pure) (h : H) : callD (cx.at c) (call cx prim) 20 [.t (.str lenF), .t (dc2 nX nY 3)] h = some (.tup [.t (.slice (qs9.map prP)), .t (.int .i64 0), .t (.int .i64 0)], h) := pureQ2 (cx := cx) primLe okQ (c := c) cb20 hm tp3 h rfl
theorem qt3k (c : FuncId) (hm : md c 26 = .pure) (h : H) : callD (cx.at c) (call cx prim) 26 [.t (.slice (qs9.map prP)), .t (dc2 nX nY 3)] h = some (.t (iv 2), h) := pureQ2 (cx := cx) primLe okQ (c := c) cb26 hm tp3k h rfl
section
variable {a b : ByteArray} (ha : a.size ≤ 1000000000) (hb : b.size ≤ 1000000000) (hma : mayV 3 0 a = true) (hmb : mayV 3 0 b = true)
include ha hb hma hmb
theorem val3q (k : Int) (hk : 6 ≤ k ∧ k ≤ 16) {K : Int} (hK : K ≠ 0) {c : FuncId} (hm : md c 15 = .pure) (hq : ∀ h, callD (cx.at 15) (call cx prim) 26 [.t (.slice ((qs3 k).map prP)), .t (dc2 nX nY 3)] h = some (.t (iv K), h)) (h : H) :
    callD (cx.at c) (call cx prim) 15 [.t (.slice ((qs3 k).map prP)), .t (xyT a b)] h = some (.tup [.t (val3 (twoV k (3, 0, a) (3, 0, b)).1), .t (iv (twoV k (3, 0, a) (3, 0, b)).2)], h) := by
  have q := s15 (ps := qs3 k) (xy_slice a b) (xy_small ha hb) (xy_vars hma hmb) (xy_decl' a b) hq hK (okq3 k ha hb) (sidesq3 k hk) (by simp [qs3]) (by simp [qs3])
  have e : evF (qs3 k) (xyL a b) (qs3 k).length (((qs3 k).length : Int) - 1) = evF (qs3 k) (xyL a b) 3 2 := rfl
  rw [e, evq3 k a b hk] at q
  obtain ⟨h', q⟩ := q
  exact pureT cb15 hm q rfl rfl
theorem val9q {c : FuncId} (hm : md c 15 = .pure) (v : V3) (e : Int) (hv : evF qs9 (xyL a b) 10 9 = (v, e)) (h : H) :
    callD (cx.at c) (call cx prim) 15 [.t (.slice (qs9.map prP)), .t (xyT a b)] h = some (.tup [.t (val3 v), .t (iv e)], h) := by
  have q := s15 (ps := qs9) (xy_slice a b) (xy_small ha hb) (xy_vars hma hmb) (xy_decl' a b) (qt3k 15 rfl) (by decide) (okq9 ha hb) sidesq9 (by simp [qs9]) (by simp [qs9])
  have e : evF qs9 (xyL a b) qs9.length ((qs9.length : Int) - 1) = evF qs9 (xyL a b) 10 9 := rfl
  rw [e, hv] at q
  obtain ⟨h', q⟩ := q
  exact pureT cb15 hm q rfl rfl
theorem less_q (h : H) : callD (cx.at 7) (call cx prim) 21 [.t (.str ⟨#[120, 32, 60, 32, 121]⟩), .t (xyT a b)] h = some (.tup [.t (.bool (lessS a b)), .t (iv 0)], h) := by
  have e : twoV 13 (3, 0, a) (3, 0, b) = ((2, if lessS a b = true then 1 else 0, ⟨#[]⟩), 0) := by
    have : holdsC 13 (cmpV 0 0 a b) = lessS a b := by
      simp only [cmpV, cmpI, cmpB, lessS, holdsC]
      cases h1 : Op.bytesLess a.toList b.toList <;> cases h2 : Op.bytesLess b.toList a.toList <;> simp
    simp [twoV, this]
  have q1 := val3q ha hb hma hmb 13 (by decide) (K := 2) (by decide) (c := 43) rfl (qt2k 15 rfl)
  rw [e] at q1
  have q2 := s43 (kd := 2) (xy_decl' a b) (qt2 43 rfl) rfl (qt2k 43 rfl) rfl q1
  have q3 := s21 (xy_slice a b) (xy_small ha hb) (xy_vars hma hmb) (c43 (c := 21) rfl q2)
  have e2 : eqI (if lessS a b = true then (1 : Int) else 0) 1 = lessS a b := by cases lessS a b <;> rfl
  simp only [e2] at q3
  exact c21 (c := 7) rfl q3 h
def same9 (a b : ByteArray) : Bool × Int := if a.size + b.size > 64 then (false, 3) else (true, 0)
theorem same_q (h : H) : callD (cx.at 7) (call cx prim) 21 [.t (.str lenF), .t (xyT a b)] h = some (.tup [.t (.bool (same9 a b).1), .t (iv (same9 a b).2)], h) := by
  have key : ∃ v, evF qs9 (xyL a b) 10 9 = (v, (same9 a b).2) ∧ eqI v.2.1 1 = (same9 a b).1 := by
    rw [evq9]
    unfold same9
    by_cases hL : a.size + b.size > 64
    · have e1 : twoV 9 (3, 0, a) (3, 0, b) = (z3, 3) := by simp [twoV, hL]
      rw [e1, if_pos hL]
      exact ⟨z3, rfl, by decide⟩
    · have e1 : twoV 9 (3, 0, a) (3, 0, b) = ((3, 0, a ++ b), 0) := by simp [twoV, hL]
      have h2 := add_exact (a := a.size) (b := b.size) (by constructor <;> omega) (by constructor <;> omega)
      rw [if_pos (by constructor <;> omega)] at h2
      have e2 : twoV 9 (1, (a.size : Int), ⟨#[]⟩) (1, (b.size : Int), ⟨#[]⟩) = ((1, (a.size : Int) + b.size, ⟨#[]⟩), 0) := by simp [twoV, h2]
      rw [e1, e2, if_neg hL]
      have e3 : ((a ++ b).size : Int) = (a.size : Int) + b.size := by rw [ByteArray.size_append]; simp
      have e4 : holdsC 11 (cmpV ((a.size : Int) + b.size) ((a.size : Int) + b.size) ⟨#[]⟩ ⟨#[]⟩) = true := by
        have : cmpB ⟨#[]⟩ ⟨#[]⟩ = 0 := by decide +kernel
        simp [cmpV, cmpI, this, holdsC]
      exact ⟨(2, 1, ⟨#[]⟩), by simp [twoV, e3, e4], by decide⟩
  obtain ⟨v, hv, hv2⟩ := key
  have q2 := s43 (kd := 2) (xy_decl' a b) (qt3 43 rfl) rfl (qt3k 43 rfl) rfl (val9q ha hb hma hmb (c := 43) rfl v _ hv)
  have q3 := s21 (xy_slice a b) (xy_small ha hb) (xy_vars hma hmb) (c43 (c := 21) rfl q2)
  rw [hv2] at q3
  exact c21 (c := 7) rfl q3 h
end
theorem law7x {a b : ByteArray} (ha : a.size ≤ 1000000000) (hb : b.size ≤ 1000000000) (hn : a.size > 100 ∨ b.size > 100 ∨ mayV 3 0 a = false ∨ mayV 3 0 b = false) : ∃ h', call cx prim 7 [.t (.str a), .t (.str b)] .empty = some (.t (.bool true), h') := by
  rw [call_run (cx := cx) rfl Tryz.func7 ok7 nd7 rfl (Nat.le_of_ble_eq_true rfl) rfl rfl]
  have q14 := fun h => c14 (c := 7) h rfl
  have qa := fun h => c23 (c := 7) 3 0 a h ha rfl
  have qb := fun h => c23 (c := 7) 3 0 b h hb rfl
  by_cases h1 : a.size > 100
  · have e1 : ltI 100 (a.size : Int) = true := ltI_true (by omega)
    simp -implicitDefEqProofs (disch := omega) [q14, e1]
  have e1 : ltI 100 (a.size : Int) = false := ltI_false (by omega)
  by_cases h2 : b.size > 100
  · have e2 : ltI 100 (b.size : Int) = true := ltI_true (by omega)
    simp -implicitDefEqProofs (disch := omega) [q14, e1, e2]
  have e2 : ltI 100 (b.size : Int) = false := ltI_false (by omega)
  cases h3 : mayV 3 0 a with
  | false =>
    rw [h3] at qa
    simp -implicitDefEqProofs (disch := omega) [q14, e1, e2, qa]
  | true =>
    cases h4 : mayV 3 0 b with
    | false =>
      rw [h3] at qa; rw [h4] at qb
      simp -implicitDefEqProofs (disch := omega) [q14, e1, e2, qa, qb]
    | true => rcases hn with h | h | h | h <;> first | omega | (rw [h] at h3; cases h3) | (rw [h] at h4; cases h4)
theorem law7 {a b : ByteArray} (ha : a.size ≤ 1000000000) (hb : b.size ≤ 1000000000) : ∃ h', call cx prim 7 [.t (.str a), .t (.str b)] .empty = some (.t (.bool true), h') := by
  by_cases hn : a.size > 100 ∨ b.size > 100 ∨ mayV 3 0 a = false ∨ mayV 3 0 b = false
  · exact law7x ha hb hn
  simp only [not_or, Bool.not_eq_false] at hn
  obtain ⟨h1, h2, hma, hmb⟩ := hn
  rw [call_run (cx := cx) rfl Tryz.func7 ok7 nd7 rfl (Nat.le_of_ble_eq_true rfl) rfl rfl]
  have q14 := fun h => c14 (c := 7) h rfl
  have qa := fun h => c23 (c := 7) 3 0 a h ha rfl
  have qb := fun h => c23 (c := 7) 3 0 b h hb rfl
  have e1 : ltI 100 (a.size : Int) = false := ltI_false (by omega)
  have e2 : ltI 100 (b.size : Int) = false := ltI_false (by omega)
  rw [hma] at qa; rw [hmb] at qb
  have q17 := fun h => xy_decl' a b 7 h rfl
  have q20 := qt1 7 rfl
  have q15 := val3q ha hb hma hmb 9 (by decide) (K := 3) (by decide) (c := 7) rfl (qt1k 15 rfl)
  have qL := less_q ha hb hma hmb
  have qS := same_q ha hb hma hmb
  by_cases hL : a.size + b.size > 64
  · have e3 : ltI 64 ((a.size : Int) + b.size) = true := ltI_true (by omega)
    have e4 : twoV 9 (3, 0, a) (3, 0, b) = (z3, 3) := by simp [twoV, hL]
    have e5 : same9 a b = (false, 3) := by simp [same9, hL]
    rw [e4] at q15
    rw [e5] at qS
    unfold lessS at qL
    simp -implicitDefEqProofs (disch := omega) [q14, e1, e2, qa, qb, q17, q20, q15, qL, qS, litSliceD, D.parts, e3]
  · have e3 : ltI 64 ((a.size : Int) + b.size) = false := ltI_false (by omega)
    have e4 : twoV 9 (3, 0, a) (3, 0, b) = ((3, 0, a ++ b), 0) := by simp [twoV, hL]
    have e5 : same9 a b = (true, 0) := by simp [same9, hL]
    have e6 : a.size + b.size ≤ 9223372036854775807 := by omega
    rw [e4] at q15
    rw [e5] at qS
    unfold lessS at qL
    simp -implicitDefEqProofs (disch := omega) [q14, e1, e2, qa, qb, q17, q20, q15, qL, qS, litSliceD, D.parts, e3, e6, lv26, eqCells, eqCell]
end Go.Proofs.YtaldobgfbkllfaaGreatDoor

namespace Go.Proofs.YtaldobgfbkllfaaGreatDoor
open Vai
open Go.ChangeShapes Go.WideShapes Go.ChangeAt Go.RowKit

theorem bulk_one {H : Type} (d : DataW H) : 1 ≤ Rows.uptoBulk d := by
  cases d with
  | lit l => cases l <;> simp [Rows.uptoBulk]
  | _ => simp [Rows.uptoBulk]
def bulk (H : Type) : Bulk H where
  b := Rows.uptoBulk
  bs := Rows.uptoBulkAll
  str := fun s => by simp [Rows.uptoBulk]
  lit := fun l => bulk_one _
  nil := bulk_one _
  slice := fun e s => by simp only [Rows.uptoBulk]; omega
  agg := fun p => by simp only [Rows.uptoBulk]; omega
  cons := fun d r => by simp only [Rows.uptoBulkAll]
theorem own : ownKnob Tryz.prog.godebug = none := by kernel_rfl
theorem mixed : Tryz.prog.follows .mixedOrders = true := by kernel_rfl
theorem laid : laidOutB Tryz.prog = true := by kernel_rfl

theorem bulks_len (l : List T) (h : ∀ x ∈ l, 1 ≤ x.bulk) : l.length ≤ T.bulk.bulks l := by
  induction l with
  | nil => simp
  | cons x l ih =>
    have h1 := h x List.mem_cons_self
    have h2 := ih fun y hy => h y (List.mem_cons_of_mem _ hy)
    simp only [T.bulk.bulks, List.length_cons]
    omega

/-- A slice of bytes. -/
theorem has_bytes {x : T} (h : (Sh.slice (.int .u8)).has x) : ∃ l : List UInt8, Slice x (ub l) ∧ l.length ≤ x.bulk := by
  obtain ⟨l, h1, h2⟩ := h
  simp only [Sh.isAgg, Bool.false_eq_true, if_false] at h2
  subst h2
  simp only [Sh.hasL] at h1
  rcases h1 with h1 | ⟨es, h1, h2⟩
  · simp only [List.cons.injEq, and_true] at h1
    subst h1
    exact ⟨[], .nil, Nat.zero_le _⟩
  · simp only [List.cons.injEq, and_true] at h1
    subst h1
    have key : ∀ es : List T, (∀ y ∈ es, ∃ l', (∃ n, l' = [T.int .u8 n] ∧ IntKind.u8.min ≤ n ∧ n ≤ IntKind.u8.max) ∧ l' = [y]) → ∃ l : List UInt8, es = ub l ∧ l.length ≤ T.bulk.bulks es := by
      intro es
      induction es with
      | nil => intro _; exact ⟨[], rfl, by simp⟩
      | cons y es ih =>
        intro h
        obtain ⟨l, rfl, hl⟩ := ih fun z hz => h z (List.mem_cons_of_mem _ hz)
        obtain ⟨_, ⟨n, rfl, h3, h4⟩, h5⟩ := h y List.mem_cons_self
        cases h5
        have h3 : 0 ≤ n := h3
        have h4 : n ≤ 255 := h4
        refine ⟨u8 n :: l, ?_, ?_⟩
        · simp only [ub, List.map_cons, List.cons.injEq, T.int.injEq, true_and, and_true]
          rw [u8_toNat]
          omega
        · simp only [T.bulk.bulks, T.bulk, List.length_cons]
          omega
    obtain ⟨l, rfl, hl⟩ := key es (by simpa [Sh.isAgg] using h2)
    exact ⟨l, .mk, by simp only [T.bulk]; omega⟩

theorem has_str {x : T} (h : Sh.str.has x) : ∃ s : ByteArray, x = .str s ∧ s.size ≤ x.bulk := by
  obtain ⟨l, ⟨s, rfl⟩, h2⟩ := h
  simp [Sh.isAgg] at h2
  subst h2
  exact ⟨s, rfl, by simp [T.bulk]⟩
theorem has_int {k : IntKind} {x : T} (h : (Sh.int k).has x) : ∃ n, x = .int k n ∧ k.min ≤ n ∧ n ≤ k.max := by
  obtain ⟨l, ⟨n, rfl, h1⟩, h2⟩ := h
  simp [Sh.isAgg] at h2
  exact ⟨n, h2.symm, h1⟩
theorem has_bool {x : T} (h : Sh.bool.has x) : ∃ b, x = .bool b := by
  obtain ⟨l, ⟨s, rfl⟩, h2⟩ := h
  simp [Sh.isAgg] at h2
  exact ⟨s, h2.symm⟩

theorem bulk_bs {H : Type} (l : List (DataW H)) {n : Nat} (h : Rows.uptoBulkAll l ≤ n) : (bulk H).bs l ≤ n := h
theorem small_le {H : Type} {l : List (DataW H)} (hk : Rows.uptoSmall H l = true) : (bulk H).bs l ≤ 1048576 := by
  unfold Rows.uptoSmall at hk
  exact bulk_bs l (of_decide_eq_true hk)
theorem has_slice {e : Sh} {x : T} (h : (Sh.slice e).has x) : x = .nilSlice ∨ ∃ es, x = .slice es ∧ ∀ y ∈ es, e.has y := by
  obtain ⟨l, h1, h2⟩ := h
  simp only [Sh.isAgg, Bool.false_eq_true, if_false] at h2
  subst h2
  simp only [Sh.hasL] at h1
  rcases h1 with h1 | ⟨es, h1, h2⟩
  · simp only [List.cons.injEq, and_true] at h1
    exact .inl h1
  · simp only [List.cons.injEq, and_true] at h1
    exact .inr ⟨es, h1, h2⟩
theorem list_dec {α : Type} {enc : α → T} {p : α → Prop} : ∀ {es : List T}, (∀ y ∈ es, ∃ a, y = enc a ∧ p a) → ∃ l : List α, es = l.map enc ∧ ∀ a ∈ l, p a
  | [], _ => ⟨[], rfl, fun a h => by cases h⟩
  | y :: es, h => by
    obtain ⟨a, rfl, ha⟩ := h y List.mem_cons_self
    obtain ⟨l, rfl, hl⟩ := list_dec (es := es) fun z hz => h z (List.mem_cons_of_mem _ hz)
    exact ⟨a :: l, rfl, fun b hb => by
      rcases List.mem_cons.1 hb with rfl | hb
      · exact ha
      · exact hl b hb⟩
theorem has_slice_dec {e : Sh} {x : T} {α : Type} {enc : α → T} {p : α → Prop} (h : (Sh.slice e).has x) (hd : ∀ y, e.has y → ∃ a, y = enc a ∧ p a) : ∃ l : List α, Slice x (l.map enc) ∧ (∀ a ∈ l, p a) ∧ T.bulk.bulks (l.map enc) ≤ x.bulk := by
  rcases has_slice h with rfl | ⟨es, rfl, hes⟩
  · exact ⟨[], .nil, (fun a h => by cases h), by simp [T.bulk.bulks]⟩
  · obtain ⟨l, rfl, hl⟩ := list_dec (es := es) fun y hy => hd y (hes y hy)
    exact ⟨l, .mk, hl, by simp only [T.bulk]; omega⟩
/-- The parts of a struct. -/
theorem has_agg {ss : List Sh} {x : T} (h : (Sh.agg ss).has x) : ∃ l, x = .agg l ∧ Sh.hasL.hasLs ss l := by
  obtain ⟨l, h1, h2⟩ := h
  simp only [Sh.isAgg, if_true] at h2
  exact ⟨l, h2, by simpa [Sh.hasL] using h1⟩

/-! the variables that the rows list -/
theorem starE : "*" ++ "errors.errorString" = "*errors.errorString" := by decide
theorem rowE (u : TypeId) (h : Tryz.prog.typeName? 3 u = some "*errors.errorString") : u = 264 :=
  typeName_ptr_named (nm := "errors.errorString") (by rw [starE]; kernel_rfl) (by kernel_rfl) (by decide) u (by rw [starE]; exact h)
/-- Package variables that are not read. -/
@[reducible] def gl0 : GlY where
  blk k := k = 4 ∨ k = 5 ∨ k = 3
  ok w := (errOK w 4 ∧ errOK w 5) ∧ Lib.TabIs Tryz.prog w "internal/strconv.uint64pow10" .u64 Lib.pow10Tab
  stay w w' h ho := by
    refine ⟨⟨ho.1.1.elim fun ev he => ⟨ev, ?_, he.2⟩, ho.1.2.elim fun ev he => ⟨ev, ?_, he.2⟩⟩, tab_stay (h 3 (.inr (.inr rfl))) ho.2⟩
    · rw [World.cell?_of_block (h 4 (.inl rfl))]; exact he.1
    · rw [World.cell?_of_block (h 5 (.inr (.inl rfl)))]; exact he.1
  tree _ := none
  trees _ _ _ _ h := by cases h
  base _ h := h
theorem cell_ok {W : World} {g : Nat} {v : Value} (hc : W.cell? ⟨g, 0, none⟩ = some v) : g < W.heap.size := by
  rcases Nat.lt_or_ge g W.heap.size with h' | h'
  · exact h'
  · simp [World.cell?, Array.getElem?_eq_none h'] at hc
theorem laid_glob {W : World} (h : laidMetH Tryz.prog Rows.evalNumbersUptoRow.laid W) : gl0.ok W ∧ ∀ k, gl0.blk k → k < W.heap.size := by
  have hL : laidMet Tryz.prog Rows.evalNumbersUptoRow.laid W := h
  have h3 := hL.tail.tail.tail
  obtain ⟨a1, t1, hv1, _⟩ := laid_sentinel (g := 5) h3 (by kernel_rfl) (by kernel_rfl) Tryz.underlying181 rowE Tryz.underlying264 Tryz.underlying266 rfl rfl Tryz.underlying9 (by kernel_rfl) (by kernel_rfl)
  obtain ⟨a0, t0, hv0, _⟩ := laid_sentinel (g := 4) h3.tail (by kernel_rfl) (by kernel_rfl) Tryz.underlying181 rowE Tryz.underlying264 Tryz.underlying266 rfl rfl Tryz.underlying9 (by kernel_rfl) (by kernel_rfl)
  have c1 := World.var?_cell (g := 5) (by kernel_rfl) hv1 0
  have c0 := World.var?_cell (g := 4) (by kernel_rfl) hv0 0
  have ht : Lib.TabIs Tryz.prog W "internal/strconv.uint64pow10" .u64 Lib.pow10Tab := Lib.tabIs_of_head (g := 3) (t := 225) (e := 170) (n := 20) glob3 (by kernel_rfl) Tryz.underlying225 Tryz.underlying170 (by kernel_rfl) (by kernel_rfl) hL.tail.tail
  have c3 := ht.cell glob3 0 (by decide)
  refine ⟨⟨⟨⟨_, c0, .inr ⟨_, _, rfl⟩⟩, ⟨_, c1, .inr ⟨_, _, rfl⟩⟩⟩, ht⟩, ?_⟩
  rintro k (rfl | rfl | rfl)
  · exact cell_ok c0
  · exact cell_ok c1
  · exact cell_ok c3

/-- A world that holds the variables. -/
noncomputable def laidWorld (os : Os) : World :=
  let N := (World.settled Tryz.prog os).heap.size
  let w0 := World.holding Tryz.prog os ⟨#[.cells #[.string ⟨#[105, 110, 118, 97, 108, 105, 100, 32, 115, 121, 110, 116, 97, 120]⟩] 266, .cells #[.string ⟨#[118, 97, 108, 117, 101, 32, 111, 117, 116, 32, 111, 102, 32, 114, 97, 110, 103, 101]⟩] 266], #[], []⟩
  let put (h : Array Obj) (g : Nat) (cs : Array Value) : Array Obj := h.modify g fun
    | .cells _ t frozen => .cells cs t frozen
    | o => o
  let h0 := put (put w0.heap 4 #[.iface 264 (.pointer (some ⟨N, 0, none⟩))]) 5 #[.iface 264 (.pointer (some ⟨N + 1, 0, none⟩))]
  let h1 := put h0 3 #[.int .u64 1, .int .u64 10, .int .u64 100, .int .u64 1000, .int .u64 10000, .int .u64 100000, .int .u64 1000000, .int .u64 10000000, .int .u64 100000000, .int .u64 1000000000, .int .u64 10000000000, .int .u64 100000000000, .int .u64 1000000000000, .int .u64 10000000000000, .int .u64 100000000000000, .int .u64 1000000000000000, .int .u64 10000000000000000, .int .u64 100000000000000000, .int .u64 1000000000000000000, .int .u64 10000000000000000000]
  let h2 := put h1 6 #[.int .u8 0, .int .u8 1, .int .u8 28, .int .u8 2, .int .u8 29, .int .u8 14, .int .u8 24, .int .u8 3, .int .u8 30, .int .u8 22, .int .u8 20, .int .u8 15, .int .u8 25, .int .u8 17, .int .u8 4, .int .u8 8, .int .u8 31, .int .u8 27, .int .u8 13, .int .u8 23, .int .u8 21, .int .u8 19, .int .u8 16, .int .u8 7, .int .u8 26, .int .u8 12, .int .u8 18, .int .u8 6, .int .u8 11, .int .u8 5, .int .u8 10, .int .u8 9]
  let h3 := put h2 7 #[.int .u8 0, .int .u8 1, .int .u8 56, .int .u8 2, .int .u8 57, .int .u8 49, .int .u8 28, .int .u8 3, .int .u8 61, .int .u8 58, .int .u8 42, .int .u8 50, .int .u8 38, .int .u8 29, .int .u8 17, .int .u8 4, .int .u8 62, .int .u8 47, .int .u8 59, .int .u8 36, .int .u8 45, .int .u8 43, .int .u8 51, .int .u8 22, .int .u8 53, .int .u8 39, .int .u8 33, .int .u8 30, .int .u8 24, .int .u8 18, .int .u8 12, .int .u8 5, .int .u8 63, .int .u8 55, .int .u8 48, .int .u8 27, .int .u8 60, .int .u8 41, .int .u8 37, .int .u8 16, .int .u8 46, .int .u8 35, .int .u8 44, .int .u8 21, .int .u8 52, .int .u8 32, .int .u8 23, .int .u8 11, .int .u8 54, .int .u8 26, .int .u8 40, .int .u8 15, .int .u8 34, .int .u8 20, .int .u8 31, .int .u8 10, .int .u8 25, .int .u8 14, .int .u8 19, .int .u8 9, .int .u8 13, .int .u8 8, .int .u8 7, .int .u8 6]
  { w0 with heap := h3 }
noncomputable abbrev N0 : Nat := (World.settled Tryz.prog default).heap.size
set_option maxRecDepth 100000 in
theorem laid_met (os : Os) (args : Array Value) : laidMet Tryz.prog Rows.evalNumbersUptoRow.laid ((laidWorld os).forCall (fun _ _ => 0) ⟨#[], args, []⟩).memory :=
  (LaidIn.of_run [6, 7, 3, 5, N0 + 1, 4, N0] 8 (by kernel_rfl) (by kernel_rfl) (by kernel_rfl) (by kernel_rfl)).met
end Go.Proofs.YtaldobgfbkllfaaGreatDoor

namespace Go.Proofs.YtaldobgfbkllfaaGreatDoor
open Vai
instance glN : GlY := gl0
theorem answers7 : Answers cx prim 7 [.str, .str] 1048576 := by
  rintro xs hxs hb
  obtain ⟨x1, _, rfl, h1, x2, _, rfl, h2, rfl⟩ := hxs
  obtain ⟨a, rfl, ha⟩ := has_str h1
  obtain ⟨b, rfl, hb'⟩ := has_str h2
  simp only [T.bulk.bulks] at hb
  obtain ⟨h', hc⟩ := law7 (a := a) (b := b) (by omega) (by omega)
  obtain ⟨k, hk⟩ := call_some.1 hc
  exact ⟨k, h', hk⟩
end Go.Proofs.YtaldobgfbkllfaaGreatDoor
