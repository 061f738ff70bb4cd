import Derived.Test.YtccajagfgdchlaaVaiD
import Derived.Test.YtccajagfgdchlaaS4
set_option linter.unusedSimpArgs false
set_option linter.unusedVariables false
set_option linter.unusedSectionVars false
namespace Go.Proofs.Ytccajagfgdchlaa
open Vai
set_option maxHeartbeats 0
theorem s49 {a b : T} {xs ys : List UInt8} (ha : Slice a (ub xs)) (hb : Slice b (ub ys)) (hx : xs.length ≤ 4000000) (hy : ys.length ≤ 4000000) : call cx prim 49 [.t (.slice [a, b])] .empty = some (nrow 5 1 (ub (xs ++ ys)) .empty) := by
  rw [call_run rfl Try.func49 ok49 nd49 rfl (Nat.le_of_ble_eq_true rfl) rfl rfl]
  have l1 := fun h => ha.len (P := Try.prog) (t := 22) tk22 h
  have l2 := fun h => hb.len (P := Try.prog) (t := 22) tk22 h
  have hg := fun h => c73 (c := 49) (xs.length + ys.length) (by omega) h rfl
  have w5 : ((xs.length : Int) + ys.length) = ((xs.length + ys.length : Nat) : Int) := by omega
  rw [ub_len] at l1 l2
  simp -implicitDefEqProofs
  rw [loop_step, LB_run nd49 rfl]
  simp -implicitDefEqProofs (disch := omega) [ha.cells1, hb.cells1, l1, l2]
  rw [loop_step, LB_run nd49 rfl]
  simp -implicitDefEqProofs (disch := omega) [ha.cells1, hb.cells1, l1, l2]
  rw [loop_step, LB_run nd49 rfl]
  simp -implicitDefEqProofs
  rw [w5, hg]
  by_cases h0 : xs.length + ys.length = 0
  · have ex : xs = [] := List.eq_nil_of_length_eq_zero (by omega)
    have ey : ys = [] := List.eq_nil_of_length_eq_zero (by omega)
    subst ex ey
    have q1 := append_nil (P := Try.prog) (h := .empty) (t := 22) tk22 sz5 byt5 zero5 rfl (by decide) (ha.source _) (ub_cells []) (by simp [ub_len]) (by simp [ub_len])
    have q2 := append_nil (P := Try.prog) (h := .empty) (t := 22) tk22 sz5 byt5 zero5 rfl (by decide) (hb.source _) (ub_cells []) (by simp [ub_len]) (by simp [ub_len])
    simp [ub, nrow] at q1 q2
    simp -implicitDefEqProofs
    rw [loop_step, LB_run nd49 rfl]
    simp -implicitDefEqProofs [ha.cells1, hb.cells1, q1, q2]
    rw [loop_step, LB_run nd49 rfl]
    simp -implicitDefEqProofs [ha.cells1, hb.cells1, q1, q2]
    rw [loop_step, LB_run nd49 rfl]
    simp -implicitDefEqProofs [ub, nrow]
  · have q1 := append_brow (P := Try.prog) (h := .empty) (t := 22) (xs := []) tk22 sz5 byt5 zero5 rfl (by decide) (ha.source _) (ub_cells xs) (by simp [ub_len]; omega) (by simp [ub_len]; omega)
    have q2 := append_brow (P := Try.prog) (h := .empty) (t := 22) (xs := ub xs) tk22 sz5 byt5 zero5 rfl (by decide) (hb.source _) (ub_cells ys) (by simp [ub_len]; omega) (by simp [ub_len]; omega)
    rw [List.nil_append] at q1
    rw [← ub_append] at q2
    rw [if_neg h0]
    simp -implicitDefEqProofs
    rw [loop_step, LB_run nd49 rfl]
    simp -implicitDefEqProofs [ha.cells1, hb.cells1, q1, q2]
    rw [loop_step, LB_run nd49 rfl]
    simp -implicitDefEqProofs [ha.cells1, hb.cells1, q1, q2]
    rw [loop_step, LB_run nd49 rfl]
    simp -implicitDefEqProofs
    exact brow_nrow fun e => h0 (by have := congrArg List.length e; simpa [ub_len] using this)

theorem s13 {b : T} {bs : List UInt8} (n : Int) (hb : Slice b (ub bs)) (hlen : bs.length ≤ 2000000) : ∃ h0, call cx prim 13 [.t b, .t (.int .i64 n)] .empty = some (nrow 5 1 (ub (bs ++ be8 n)) h0) := by
  rw [call_run rfl Try.func13 ok13 nd13 rfl (Nat.le_of_ble_eq_true rfl) rfl rfl]
  simp -implicitDefEqProofs [varD, chunk, ofCells, allM]
  generalize hL : loopω _ _ = L
  have hr : ∀ k, k ≤ 8 → (bek n k ++ List.replicate (8 - k) 0).length = 8 := by intro k hk; simp [bek_len]; omega
  obtain ⟨x, st', rfl, rfl, env, rfl, e0, e5⟩ := loop_uses hL 8
    (fun i st => ∃ env, st = ⟨24, env, .push .empty (.row 76 1 ((ub (bek n i ++ List.replicate (8 - i) 0)).map .t))⟩ ∧ env 0 = .t b ∧ env 1 = .t (.int .i64 n) ∧ env 5 = .ptr 0 0 0 8 ∧ env 7 = .t (.int .i64 i))
    (fun x st => x = .exit 0 ∧ ∃ env, st = ⟨24, env, .push .empty (.row 76 1 ((ub (bek n 8)).map .t))⟩ ∧ env 0 = .t b ∧ env 5 = .ptr 0 0 0 8)
    ⟨_, rfl, by simp, by simp, by simp, by simp⟩ (by
    rintro i _ hi ⟨env, rfl, e0, e1, e5, e7⟩
    rw [LB_run nd13 rfl]
    by_cases hi' : i < 8
    · have w6 : IntKind.u8.wrap ((IntKind.u64.wrap n).fdiv (2 ^ (56 - 8 * (i : Int)).toNat)) = (dig n i).toNat := wrap_u8_u8 _
      have hst := store_one (P := Try.prog) (h := .push .empty (.row 76 1 ((ub (bek n i ++ List.replicate (8 - i) 0)).map .t))) (t := 5) (y := .int .u8 (dig n i).toNat) (id := 0) (i := i) rfl (by rw [ub_len, hr i hi]) hi' (ub_cell _) rfl sz5 (by rw [tk5]; rfl)
      have hset : (ub (bek n i ++ List.replicate (8 - i) 0)).set i (.int .u8 (dig n i).toNat) = ub (bek n (i + 1) ++ List.replicate (8 - (i + 1)) 0) := by
        rw [show 8 - i = (8 - (i + 1)) + 1 by omega, List.replicate_succ, bek_succ]
        simp [ub, bek_len, List.set_append]
      rw [hset] at hst
      simp -implicitDefEqProofs (disch := omega) [-storeD, e0, e1, e5, e7, ub_len, hr i hi, w6, hi', hst]
    · obtain rfl : i = 8 := by omega
      simp -implicitDefEqProofs [e0, e5, e7])
  have hsn : allM (snap ((H.empty.push (AObj.row 76 1 ((ub (bek n 8)).map D.t))).push (AObj.row 22 1 [D.t b, D.row 0 0 8 8]))) [D.row 1 0 2 2] = some [.slice [b, .slice (ub (be8 n))]] := by
    have hl : (ub (bek n 8)).length = 8 := by rw [ub_len, bek_len]
    have ht : List.take 8 ((ub (bek n 8)).map D.t) = (ub (bek n 8)).map D.t := List.take_of_length_le (by simp [hl])
    simp [hl, ht]
  have hc := ownNew' (cc := cx.at 13) cb49 rfl hsn (s49 hb (.mk (es := ub (be8 n))) (by omega) (by rw [bek_len]; omega)) (.inl (ub_flat _))
  simp -implicitDefEqProofs [e0, e5, sliceD, ub_len, bek_len, buildSliceD, hb.cells1, hc]
  exact ⟨_, rfl⟩

theorem s14 {b : T} {bs : List UInt8} (s : ByteArray) (hb : Slice b (ub bs)) (hlen : bs.length ≤ 1500000) (hs : s.size ≤ 2000000) : ∃ h0, call cx prim 14 [.t b, .t (.str s)] .empty = some (nrow 5 1 (ub (bs ++ be8 s.size ++ s.data.toList)) h0) := by
  rw [call_run rfl Try.func14 ok14 nd14 rfl (Nat.le_of_ble_eq_true rfl) rfl rfl]
  have hsz : s.data.toList.length = s.size := by simp
  obtain ⟨h0, hc⟩ := s13 s.size hb (by omega)
  have h1 := fun h => ownNew (cc := cx.at 14) (h := h) cb13 rfl hc rfl
  have h2 := append_new (P := Try.prog) (h := .empty) (t := 22) (x := .t (.str s)) (xs := ub (bs ++ be8 s.size)) (ys := ub s.data.toList) tk22 sz5 byt5 zero5 rfl (by decide) rfl (ub_cells _) (by simp [ub_len, bek_len]; omega) (by simp [ub_len, bek_len]; omega)
  rw [← ub_append] at h2
  simp -implicitDefEqProofs [h1, h2]
  exact ⟨_, rfl⟩
theorem s15 {b : T} {bs : List UInt8} (x : Bool) (hb : Slice b (ub bs)) (hlen : bs.length ≤ 2000000) : ∃ h0, call cx prim 15 [.t b, .t (.bool x)] .empty = some (nrow 5 1 (ub (bs ++ [if x then 1 else 0])) h0) := by
  rw [call_run rfl Try.func15 ok15 nd15 rfl (Nat.le_of_ble_eq_true rfl) rfl rfl]
  have hsn : ∀ y : T, allM (snap (H.empty.push (AObj.row 22 1 [D.t b, D.t (.slice [y])]))) [D.row 0 0 2 2] = some [.slice [b, .slice [y]]] := fun y => by simp
  have hc := fun c : UInt8 => ownNew' (cc := cx.at 15) cb49 rfl (hsn _) (s49 hb (.mk (es := ub [c])) (by omega) (by simp)) (.inl (ub_flat _))
  cases x with
  | true =>
    have := hc 1
    simp [ub] at this
    simp -implicitDefEqProofs [litSliceD, buildSliceD, hb.cells1, ub, this]
    exact ⟨_, rfl⟩
  | false =>
    have := hc 0
    simp [ub] at this
    simp -implicitDefEqProofs [litSliceD, buildSliceD, hb.cells1, ub, this]
    exact ⟨_, rfl⟩
end Go.Proofs.Ytccajagfgdchlaa
