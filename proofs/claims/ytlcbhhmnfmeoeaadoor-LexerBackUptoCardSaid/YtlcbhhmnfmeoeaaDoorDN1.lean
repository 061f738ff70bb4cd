import Derived.Test.YtlcbhhmnfmeoeaaDoorU4
import Derived.Test.YtlcbhhmnfmeoeaaDoorDL19
set_option linter.unusedSimpArgs false
set_option linter.unusedVariables false
set_option linter.unusedSectionVars false
namespace Go.Proofs.YtlcbhhmnfmeoeaaDoor
open Vai
set_option maxHeartbeats 0
theorem q9_of {c : FuncId} {s : ByteArray} {l : List Tk} {a w : Int} (hs : s.size ≤ 1000000000) (he : lexS s = (l, a, w)) (hl : l ≠ []) (hm : md c 9 = .pure) : ∀ h, callD (cx.at c) (call cx prim) 9 [.t (.str s)] h = some (.tup [.t (.slice (l.map Tk.t)), .t (.int .i64 a), .t (.int .i64 w)], h) := by
  obtain ⟨x, hx, q⟩ := c9 (c := c) s hs hm
  rw [he] at hx q
  have hxe : x = .slice (l.map Tk.t) := hx.eq_of_ne (by simpa using hl)
  rw [hxe] at q
  exact q
theorem q9_nil {c : FuncId} {s : ByteArray} {a w : Int} (hs : s.size ≤ 1000000000) (he : lexS s = ([], a, w)) (hm : md c 9 = .pure) : ∃ x, Slice x [] ∧ ∀ h, callD (cx.at c) (call cx prim) 9 [.t (.str s)] h = some (.tup [.t x, .t (.int .i64 a), .t (.int .i64 w)], h) := by
  obtain ⟨x, hx, q⟩ := c9 (c := c) s hs hm
  rw [he] at hx q
  exact ⟨x, hx, q⟩
theorem law6 (n : Int) (c : Nat) (hn : -9223372036854775808 ≤ n) (hn2 : n ≤ 9223372036854775807) (hc : c < 256) : ∃ h', call cx prim 6 [.t (.int .i64 n), .t (.int .u8 c)] .empty = some (.t (.bool true), h') := by
  rw [call_run rfl Tryd.func6 ok6 nd6 rfl (Nat.le_of_ble_eq_true rfl) rfl rfl]
  have q14 := fun h => c14 (c := 6) (x := n) h hn (by omega) rfl
  have q11 := fun h => c11 (c := 6) h rfl
  have hlen := dig_len (n := n.natAbs) (k := 20) (by omega) (by omega)
  obtain ⟨hd1, hd2⟩ := dig_is n.natAbs
  have hsz := size_list (decL n)
  by_cases hneg : n < 0
  · have hde : decL n = 45 :: dig n.natAbs := by unfold decL; rw [if_pos hneg]
    have hlx := lexS_neg hd1 (by omega) hd2
    rw [hde] at q14 hsz
    simp only [List.length_cons] at hsz
    by_cases hmin : n = -9223372036854775808
    · rw [numS_no hd1 hd2 (by rw [dval_dig]; omega)] at hlx
      obtain ⟨x, hx, q9⟩ := q9_nil (c := 6) (by omega) hlx rfl
      generalize (⟨(45 :: dig n.natAbs).toArray⟩ : ByteArray) = tx at q14 q9
      clear hlx hsz hde hd1 hd2 hlen
      subst hmin
      simp -implicitDefEqProofs (disch := omega) [q14, q9, q11]
    · rw [numS_dig (by omega)] at hlx
      have q9 := q9_of (c := 6) (by omega) hlx (by simp) rfl
      have hm' : eqI n (-9223372036854775808) = false := eqI_false hmin
      have hab : (n.natAbs : Int) = -n := by omega
      simp only [List.map_cons, List.map_nil, Tk.t, noText, hab] at q9
      simp -implicitDefEqProofs (disch := omega) [q14, q9, q11, hm']
  · have hde : decL n = dig n.natAbs := by unfold decL; rw [if_neg hneg]
    have hlx := lexS_digits hd1 (by omega) hd2
    rw [hde] at q14 hsz
    rw [numS_dig (by omega)] at hlx
    have q9 := q9_of (c := 6) (by omega) hlx (by simp) rfl
    have hab : (n.natAbs : Int) = n := by omega
    simp only [List.map_cons, List.map_nil, Tk.t, noText, hab] at q9
    have hall : ∀ b ∈ dig n.natAbs ++ [dchr c], digitB b.toNat = true := fun b hb => by
      rcases List.mem_append.1 hb with hb | hb
      · exact hd2 b hb
      · simp only [List.mem_singleton] at hb
        subst hb
        have := dchr_nat c
        simp only [digitB, decide_eq_true_eq]
        omega
    have hne2 : dig n.natAbs ++ [dchr c] ≠ [] := by simp
    have hlen2 : (dig n.natAbs ++ [dchr c]).length ≤ 21 := by simp; omega
    have hlx2 := lexS_digits hne2 (by omega) hall
    have hsz2 := size_list (dig n.natAbs ++ [dchr c])
    obtain ⟨m, ok, hq15, hnum⟩ : ∃ m ok, (∀ h, callD (cx.at 6) (call cx prim) 15 [.t (.str ⟨(dig n.natAbs ++ [dchr c]).toArray⟩)] h = some (.tup [.t (.int .i64 m), .t (.bool ok)], h)) ∧ numS (dig n.natAbs ++ [dchr c]) = if ok = true then some m else none := by
      obtain ⟨m, ok, h', q, e⟩ := s15 hne2 (by omega) hall
      exact ⟨m, ok, fun h => pureT cb15 rfl q (by simp [snapOut]) rfl, e⟩
    have happ : (⟨(dig n.natAbs).toArray⟩ : ByteArray) ++ ⟨#[dchr c]⟩ = ⟨(dig n.natAbs ++ [dchr c]).toArray⟩ := by
      apply ByteArray.ext
      simp
    have hsz3 : (⟨(dig n.natAbs).toArray⟩ : ByteArray).size + (⟨#[dchr c]⟩ : ByteArray).size ≤ 9223372036854775807 := by
      rw [size_list]
      have : (⟨#[dchr c]⟩ : ByteArray).size = 1 := rfl
      omega
    have t1 := tmod_pos' (a := (c : Int)) (b := 10) (by omega)
    have hc8 : IntKind.wrap .u8 (48 + (c : Int) % 10) = ((dchr c).toNat : Int) := by
      rw [dchr_nat]
      simp [IntKind.wrap]
      omega
    have hcv := BR.conv (h := H.empty.push (.row 5 1 [.t (.int .u8 (dchr c).toNat)])) (d := .row 0 0 1 1) (l := [dchr c]) (.inr ⟨0, by simp, rfl, by simp [ub]⟩)
    rw [hnum] at hlx2
    cases ok with
    | true =>
      simp only [if_true] at hlx2
      have q92 := q9_of (c := 6) (by omega) hlx2 (by simp) rfl
      simp only [List.map_cons, List.map_nil, Tk.t, noText] at q92
      simp -implicitDefEqProofs (disch := omega) [q14, q9, q11, hq15, q92, happ, hsz3, t1, hc8, hcv, buildSliceD, List.replicate]
    | false =>
      simp only [Bool.false_eq_true, if_false] at hlx2
      obtain ⟨x, hx, q92⟩ := q9_nil (c := 6) (by omega) hlx2 rfl
      simp -implicitDefEqProofs (disch := omega) [q14, q9, q11, hq15, q92, happ, hsz3, t1, hc8, hcv, buildSliceD, List.replicate]
end Go.Proofs.YtlcbhhmnfmeoeaaDoor
