import Derived.Test.YtccajagfgdchlaaR1
import Derived.Test.YtccajagfgdchlaaS6
set_option linter.unusedSimpArgs false
set_option linter.unusedVariables false
set_option linter.unusedSectionVars false
namespace Go.Proofs.Ytccajagfgdchlaa
open Vai
set_option maxHeartbeats 0
theorem s59 {x : T} {l : List UInt8} (hx : Slice x (ub l)) (hl : l.length ≤ 8000000) : (x = .nilSlice ∧ call cx prim 59 [.t x] .empty = some (.t .nilSlice, .empty)) ∨ (x = .slice (ub l) ∧ call cx prim 59 [.t x] .empty = some (brow 5 1 (ub l) .empty)) := by
  rcases hx with ⟨rfl, he⟩ | rfl
  · refine .inl ⟨rfl, ?_⟩
    rw [call_run rfl Try.func59 ok59 nd59 rfl (Nat.le_of_ble_eq_true rfl) rfl rfl]
    simp -implicitDefEqProofs [binD]
  · refine .inr ⟨rfl, ?_⟩
    rw [call_run rfl Try.func59 ok59 nd59 rfl (Nat.le_of_ble_eq_true rfl) rfl rfl]
    have q1 := append_brow (P := Try.prog) (h := .empty) (t := 22) (x := .t (.slice (ub l))) (xs := []) (ys := ub l) tk22 sz5 byt5 zero5 rfl (by decide) rfl (ub_cells l) (by simp [ub_len]; omega) (by simp [ub_len]; omega)
    rw [List.nil_append] at q1
    simp [brow] at q1
    simp -implicitDefEqProofs [binD, litSliceD, buildSliceD, q1, brow]
theorem c59 {c : FuncId} {d : D} {x : T} {l : List UInt8} {h : H} (hd : snap h d = some x) (hx : Slice x (ub l)) (hl : l.length ≤ 8000000) : callD (cx.at c) (call cx prim) 59 [d] h = some (.t x, h) := by
  have hs : allM (snap h) [d] = some [x] := by simp only [allM, hd]
  rcases s59 hx hl with ⟨rfl, q⟩ | ⟨rfl, q⟩
  · exact treeT cb59 (by simp [md]) hs q (.inl rfl)
  · exact treeRow cb59 (by simp [md]) hs q (.inl (ub_flat l))
theorem s25 {d : D} {x : T} {l : List UInt8} {h : H} (hd : snap h d = some x) (hx : Slice x (ub l)) (hl : l.length ≤ 8000000) : call cx prim 25 [d] h = some (.ptr h.next 0 0 1, h.push (rdO 87 x (0 : Nat) false)) := by
  rw [call_run rfl Try.func25 ok25 nd25 rfl (Nat.le_of_ble_eq_true rfl) rfl rfl]
  have q := c59 (c := 25) hd hx hl
  simp -implicitDefEqProofs [q, hx.cells1]
  rfl
theorem c25 {c : FuncId} {d : D} {x : T} {l : List UInt8} {h : H} (hd : snap h d = some x) (hx : Slice x (ub l)) (hl : l.length ≤ 8000000) : callD (cx.at c) (call cx prim) 25 [d] h = some (.ptr h.next 0 0 1, h.push (rdO 87 x (0 : Nat) false)) := keepT cb25 (by simp [md]) (s25 hd hx hl)

/-! a number's bytes, read again -/
theorem bek_succ_front (n : Int) : True := trivial
theorem dig_val (n : Int) (k : Nat) (hk : k ≤ 8) : (val (bek n k) : Int) = (IntKind.u64.wrap n).fdiv (2 ^ (64 - 8 * k)) := by
  have hu : ∀ m : Int, 0 ≤ IntKind.u64.wrap m ∧ IntKind.u64.wrap m < 18446744073709551616 := fun m => by
    have e : (2 : Int) ^ (64 : Nat) = 18446744073709551616 := by decide
    simp only [IntKind.wrap, IntKind.bits, IntKind.signed, Bool.false_and, e]
    simp
    omega
  generalize hm : IntKind.u64.wrap n = m
  have hb := hu n
  rw [hm] at hb
  induction k with
  | zero =>
    have e : (2 : Int) ^ (64 - 8 * 0) = 18446744073709551616 := by decide
    rw [e]
    have h1 : m.fdiv 18446744073709551616 = m / 18446744073709551616 := Int.fdiv_eq_ediv_of_nonneg _ (by omega)
    rw [h1]
    simp [bek, val]
    omega
  | succ k ih =>
    have ih := ih (by omega)
    rw [bek_succ, val_snoc]
    have h1 : ((dig n k).toNat : Int) = ((IntKind.u64.wrap n).fdiv (2 ^ (56 - 8 * (k : Int)).toNat)) % 256 := u8_toNat _
    rw [hm] at h1
    have e1 : (56 - 8 * (k : Int)).toNat = 64 - 8 * (k + 1) := by omega
    rw [e1] at h1
    have e2 : (2 : Int) ^ (64 - 8 * k) = 2 ^ (64 - 8 * (k + 1)) * 256 := by
      rw [show 64 - 8 * k = (64 - 8 * (k + 1)) + 8 by omega, Int.pow_add]
      rfl
    rw [e2] at ih
    have hp : (0 : Int) < 2 ^ (64 - 8 * (k + 1)) := Int.pow_pos (by omega)
    generalize (2 : Int) ^ (64 - 8 * (k + 1)) = q at h1 ih hp ⊢
    have f1 : m.fdiv q = m / q := Int.fdiv_eq_ediv_of_nonneg _ (by omega)
    have f2 : m.fdiv (q * 256) = m / (q * 256) := Int.fdiv_eq_ediv_of_nonneg _ (by omega)
    rw [f1] at h1 ⊢
    rw [f2, ← Int.ediv_ediv_of_nonneg (by omega)] at ih
    omega
theorem val_be8 (n : Int) (h1 : -9223372036854775808 ≤ n) (h2 : n ≤ 9223372036854775807) : IntKind.i64.wrap (val (be8 n)) = n := by
  rw [dig_val n 8 (by omega)]
  have e : (2 : Int) ^ (64 : Nat) = 18446744073709551616 := by decide
  have e' : (2 : Int) ^ (64 - 1 : Nat) = 9223372036854775808 := by decide
  have e0 : (2 : Int) ^ (64 - 8 * 8) = 1 := by decide
  rw [e0, Int.fdiv_one]
  simp only [IntKind.wrap, IntKind.bits, IntKind.signed, Bool.true_and, Bool.false_and, e, e', decide_eq_true_eq]
  simp
  split <;> omega
theorem slice_front {l : List UInt8} {c : Nat} (hc : c ≤ l.length) (hh : H) : sliceD Try.prog hh 22 (.t (.slice (ub l))) none (some (.t (.int .i64 c))) none = some (.t (.slice (ub (l.take c)))) := by
  simp only [sliceD, tk22, sz5, boundD, Option.getD_some, Option.getD_none]
  rw [if_pos ⟨by omega, by omega, by rw [ub_len]; omega, .inl trivial⟩]
  simp [ub, List.map_take]
theorem ba_nil (s : ByteArray) : (⟨([] : List UInt8).toArray⟩ : ByteArray) = ⟨#[]⟩ := rfl
theorem law10 (n : Int) (s : ByteArray) (cut : Int) (hn : -9223372036854775808 ≤ n) (hn2 : n ≤ 9223372036854775807) (hs : s.size ≤ 1500000) : ∃ h', call cx prim 10 [.t (.int .i64 n), .t (.str s), .t (.int .i64 cut)] .empty = some (.t (.bool true), h') := by
  rw [call_run rfl Try.func10 ok10 nd10 rfl (Nat.le_of_ble_eq_true rfl) rfl rfl]
  obtain ⟨_, q13⟩ := s13 n (b := .nilSlice) (bs := []) .nil (by simp)
  have r13 := fun h => pureNew (cc := cx.at 10) (h := h) cb13 (by simp [md]) q13 rfl
  rw [List.nil_append] at r13
  have hsl := sl_slice (ub (be8 n))
  obtain ⟨_, q14⟩ := s14 s hsl (by rw [bek_len]; omega) (by omega)
  have r14 := fun h => pureNew (cc := cx.at 10) (h := h) cb14 (by simp [md]) q14 rfl
  have hsz : s.data.toList.length = s.size := by simp
  generalize hL : be8 n ++ be8 s.size ++ s.data.toList = L at r14
  have hLl : L.length = 16 + s.size := by rw [← hL]; simp [bek_len]; omega
  have hne : ub L ≠ [] := fun e => by have := congrArg List.length e; rw [ub_len, hLl] at this; simp at this
  rw [sl_cons hne] at r14
  have ww : IntKind.i64.wrap ((ub L).length : Int) = (ub L).length := by rw [ub_len]; exact wrap_i64 (by omega) (by omega)
  by_cases h1 : cut < 0
  · simp -implicitDefEqProofs (disch := omega) [r13, r14, c16 (c := 10) _ (by simp [md])]
  obtain ⟨c, rfl⟩ : ∃ c : Nat, cut = c := ⟨cut.toNat, by omega⟩
  by_cases h2 : L.length ≤ c
  · have h3 : L.length ≤ c := h2
    simp -implicitDefEqProofs (disch := omega) [r13, r14, c16 (c := 10) _ (by simp [md]), ub_len]
  have hx : Slice (.slice (ub (L.take c))) (ub (L.take c)) := .mk
  have hl : (L.take c).length = c := by simp; omega
  have r25 := fun (h : H) => c25 (c := 10) (d := .t (.slice (ub (L.take c)))) (h := h) (snap_t h _) hx (by omega)
  have hf := fun hh => slice_front (l := L) (c := c) (by omega) hh
  have cells : (T.slice (ub (L.take c))).cells = [.slice (ub (L.take c))] := rfl
  by_cases h8 : c < 8
  · have i1 : intR (L.take c) 0 false = (0, 0, true) := by unfold intR; rw [if_pos (.inr (by omega))]
    have i2 : intR (L.take c) 0 true = (0, 0, true) := by unfold intR; rw [if_pos (.inl rfl)]
    have i3 : textR (L.take c) 0 true = ([], 0, true) := by unfold textR; rw [i2]; simp [takeR]
    have i4 : boolR (L.take c) 0 true = (false, 0, true) := by unfold boolR; rw [if_pos (.inl rfl)]
    have r26 := fun (h : H) ho => c26 (c := 10) (p := 0) (bad := false) (h := h) (id := 0) ho hx (by omega) (by omega)
    have r26' := fun (h : H) ho => c26 (c := 10) (p := 0) (bad := true) (h := h) (id := 0) ho hx (by omega) (by omega)
    have r35 := fun (h : H) ho => c35 (c := 10) (p := 0) (bad := true) (h := h) (id := 0) ho hx (by omega) (by omega)
    have r36 := fun (h : H) ho => c36 (c := 10) (p := 0) (bad := true) (h := h) (id := 0) ho hx (by omega) (by omega)
    have r37 := fun (h : H) ho => c37 (c := 10) (p := 0) (bad := true) (h := h) (id := 0) ho hx
    have r28 := fun (h : H) ho => c28 (c := 10) (p := 0) (bad := true) (h := h) (id := 0) ho hx (by omega) (by omega)
    have r38 := fun (h : H) ho => c38 (c := 10) (p := 0) (bad := true) (h := h) (id := 0) ho hx
    rw [i1] at r26
    rw [i2] at r26'
    rw [i3] at r35
    rw [i4] at r36
    simp -implicitDefEqProofs (disch := first | omega | simp) [r13, r14, c16 (c := 10) _ (by simp [md]), ub_len, hf, r25, r26, r26', r35, r36, r37, r28, r38, leftR, doneR, cells]
  · have hbd := fun m (h : m ≤ c) => (show m ≤ (L.take c).length by omega)
    have hf8 : ((L.take c).drop 0).take 8 = be8 n := by
      rw [List.drop_zero, List.take_take, show min 8 c = 8 by omega, ← hL, List.append_assoc, List.take_append_of_le_length (by rw [bek_len]; omega), List.take_of_length_le (by rw [bek_len]; omega)]
    have i1 : intR (L.take c) 0 false = (n, 8, false) := by
      unfold intR
      rw [if_neg (by simp; omega), hf8, val_be8 n hn hn2]
    have i3 : ∃ p' : Nat, p' ≤ c ∧ textR (L.take c) 8 false = ([], p', true) := by
      unfold textR
      by_cases h16 : c < 16
      · have i2 : intR (L.take c) 8 false = (0, 8, true) := by unfold intR; rw [if_pos (.inr (by omega))]
        rw [i2]
        exact ⟨8, by omega, by simp [takeR]⟩
      · have hs8 : ((L.take c).drop 8).take 8 = be8 s.size := by
          rw [List.drop_take, List.take_take, show min 8 (c - 8) = 8 by omega, ← hL, List.append_assoc, List.drop_append_of_le_length (by rw [bek_len]; omega), List.drop_of_length_le (by rw [bek_len]; omega), List.nil_append, List.take_append_of_le_length (by rw [bek_len]; omega), List.take_of_length_le (by rw [bek_len]; omega)]
        have i2 : intR (L.take c) 8 false = ((s.size : Int), 16, false) := by
          unfold intR
          rw [if_neg (by simp; omega), hs8, val_be8 s.size (by omega) (by omega)]
        rw [i2]
        refine ⟨16, by omega, ?_⟩
        simp only [takeR]
        rw [if_pos (.inr (.inr (by omega)))]
    obtain ⟨p', hp', i3⟩ := i3
    have i4 : intR (L.take c) p' true = (0, p', true) := by unfold intR; rw [if_pos (.inl rfl)]
    have i5 : countR (L.take c) p' true 1 = (0, p', true) := by unfold countR; rw [i4]; simp
    have r26 := fun (h : H) ho => c26 (c := 10) (p := 0) (bad := false) (h := h) (id := 0) ho hx (by omega) (by omega)
    have r35 := fun (h : H) ho => c35 (c := 10) (p := 8) (bad := false) (h := h) (id := 0) ho hx (by omega) (by omega)
    have r37 := fun (h : H) ho => c37 (c := 10) (p := 8) (bad := false) (h := h) (id := 0) ho hx
    have r37' := fun (h : H) ho => c37 (c := 10) (p := p') (bad := true) (h := h) (id := 0) ho hx
    have r41 := fun (h : H) ho => c41 (c := 10) (p := p') (bad := true) (least := 1) (h := h) (id := 0) ho hx (by omega) (by omega)
    have r38 := fun (h : H) ho => c38 (c := 10) (p := p') (bad := true) (h := h) (id := 0) ho hx
    rw [i1] at r26
    rw [i3] at r35
    rw [i5] at r41
    simp -implicitDefEqProofs (disch := first | omega | simp) [r13, r14, c16 (c := 10) _ (by simp [md]), ub_len, hf, r25, r26, r35, r37, r37', r41, r38, doneR, cells]
end Go.Proofs.Ytccajagfgdchlaa
