import Derived.Test.YtlcbhhmnfmeoeaaDoorU2
set_option linter.unusedSimpArgs false
set_option linter.unusedVariables false
set_option linter.unusedSectionVars false
/-
  Numbers in decimal.
-/
namespace Vai
open Go
def dchr (n : Nat) : UInt8 := UInt8.ofNat (48 + n % 10)
def dig (n : Nat) : List UInt8 := if n < 10 then [dchr n] else dig (n / 10) ++ [dchr n]
def decL (x : Int) : List UInt8 := if x < 0 then 45 :: dig x.natAbs else dig x.natAbs
theorem dchr_nat (n : Nat) : (dchr n).toNat = 48 + n % 10 := by
  unfold dchr
  rw [UInt8.toNat_ofNat']
  omega
theorem dig_small {n : Nat} (h : n < 10) : dig n = [dchr n] := by rw [dig, if_pos h]
theorem dig_big {n : Nat} (h : ¬ n < 10) : dig n = dig (n / 10) ++ [dchr n] := by rw [dig, if_neg h]
theorem dig_ne (n : Nat) : dig n ≠ [] := by
  rw [dig]; split <;> simp
theorem dig_all (n : Nat) : ∀ b ∈ dig n, digitB b.toNat = true := by
  fun_induction dig n with
  | case1 n h =>
    intro b hb
    simp only [List.mem_singleton] at hb
    subst hb
    have := dchr_nat n
    simp only [digitB, decide_eq_true_eq]
    omega
  | case2 n h ih =>
    intro b hb
    rcases List.mem_append.1 hb with hb | hb
    · exact ih b hb
    · simp only [List.mem_singleton] at hb
      subst hb
      have := dchr_nat n
      simp only [digitB, decide_eq_true_eq]
      omega
theorem dval_snoc (l : List UInt8) (c : UInt8) : dval (l ++ [c]) = dval l * 10 + (c.toNat - 48) := by simp [dval]
theorem dval_dig (n : Nat) : dval (dig n) = n := by
  fun_induction dig n with
  | case1 n h =>
    have := dchr_nat n
    simp only [dval, List.foldl_cons, List.foldl_nil]
    omega
  | case2 n h ih =>
    have := dchr_nat n
    rw [dval_snoc, ih]
    omega
theorem dig_len {n k : Nat} (hk : 0 < k) (h : n < 10 ^ k) : (dig n).length ≤ k := by
  fun_induction dig n generalizing k with
  | case1 n h1 => simp only [List.length_singleton]; exact hk
  | case2 n h1 ih =>
    match k, hk with
    | 1, _ => simp at h; omega
    | k + 2, _ =>
      have := @ih (k + 1) (by omega) (by rw [Nat.pow_succ] at h; omega)
      simp; omega
theorem dig_len_ge {n k : Nat} (h : 10 ^ k ≤ n) : k < (dig n).length := by
  fun_induction dig n generalizing k with
  | case1 n h1 =>
    match k with
    | 0 => simp
    | k + 1 =>
      have : 1 ≤ 10 ^ k := Nat.one_le_pow _ _ (by omega)
      rw [Nat.pow_succ] at h; omega
  | case2 n h1 ih =>
    match k with
    | 0 => simp
    | k + 1 =>
      have := @ih k (by rw [Nat.pow_succ] at h; omega)
      simp; omega
theorem dval_lt : ∀ (k : Nat) (l : List UInt8), l.length = k → (∀ b ∈ l, digitB b.toNat = true) → dval l < 10 ^ k
  | 0, l, hl, h => by
    have : l = [] := List.length_eq_zero_iff.1 hl
    subst this; simp [dval]
  | k + 1, l, hl, h => by
    have hne : l ≠ [] := fun e => by subst e; simp at hl
    obtain ⟨i, c, rfl⟩ : ∃ i c, l = i ++ [c] := ⟨l.dropLast, l.getLast hne, (List.dropLast_concat_getLast hne).symm⟩
    have hc := h c (by simp)
    simp only [digitB, decide_eq_true_eq] at hc
    have := dval_lt k i (by simpa using hl) fun b hb => h b (by simp [hb])
    rw [dval_snoc, Nat.pow_succ]
    omega
/-- A canonical numeral is its number's. -/
theorem dig_dval : ∀ (k : Nat) (l : List UInt8), l.length = k → l ≠ [] → (∀ b ∈ l, digitB b.toNat = true) → (1 < l.length → (l.getD 0 0).toNat ≠ 48) → dig (dval l) = l ∧ (1 < l.length → 10 ≤ dval l) ∧ ((l.getD 0 0).toNat ≠ 48 → dval l ≠ 0)
  | 0, l, hl, hne, _, _ => absurd (List.length_eq_zero_iff.1 hl) hne
  | k + 1, l, hl, hne, h, h0 => by
    obtain ⟨i, c, rfl⟩ : ∃ i c, l = i ++ [c] := ⟨l.dropLast, l.getLast hne, (List.dropLast_concat_getLast hne).symm⟩
    have hc := h c (by simp)
    simp only [digitB, decide_eq_true_eq] at hc
    have hcc : ∀ n, n % 10 = c.toNat - 48 → dchr n = c := fun n hn => UInt8.toNat_inj.1 (by rw [dchr_nat, hn]; omega)
    rw [dval_snoc]
    cases i with
    | nil =>
      simp only [List.nil_append, List.length_singleton]
      refine ⟨?_, fun h => by omega, fun h => ?_⟩
      · rw [dig_small (by simp [dval]; omega)]
        rw [hcc _ (by simp [dval]; omega)]
      · simp at h; simp [dval]; omega
    | cons d i =>
      have hd0 : (d : UInt8).toNat ≠ 48 := by simpa using h0 (by simp)
      obtain ⟨ih1, ih2, ih3⟩ := dig_dval k (d :: i) (by simpa using hl) (by simp) (fun b hb => h b (by simp at hb ⊢; rcases hb with rfl | hb <;> simp_all)) (fun _ => by simpa using hd0)
      have hnz := ih3 (by simpa using hd0)
      refine ⟨?_, fun _ => by omega, fun _ => by omega⟩
      rw [dig_big (by omega), hcc _ (by omega), show (dval (d :: i) * 10 + (c.toNat - 48)) / 10 = dval (d :: i) by omega, ih1]
theorem dig_head (n : Nat) : 1 < (dig n).length → ((dig n).getD 0 0).toNat ≠ 48 := by
  fun_induction dig n with
  | case1 n h => intro h; simp at h
  | case2 n h ih =>
    intro _
    by_cases hl : 1 < (dig (n / 10)).length
    · have := ih hl
      have e : (dig (n / 10) ++ [dchr n]).getD 0 0 = (dig (n / 10)).getD 0 0 := by
        simp only [List.getD_eq_getElem?_getD]
        rw [List.getElem?_append_left (by omega)]
      rw [e]; exact this
    · have h10 : n / 10 < 10 := by
        apply Classical.byContradiction
        intro hh
        have := dig_len_ge (n := n / 10) (k := 1) (by omega)
        omega
      rw [dig_small h10]
      have := dchr_nat (n / 10)
      simp
      omega
/-- The numbers of digits that are read are the canonical numerals below the limit. -/
theorem numS_dig {n : Nat} (h : n < 9223372036854775808) : numS (dig n) = some (n : Int) := by
  unfold numS
  rw [dval_dig, if_pos ⟨h, fun hh => dig_head n hh.1 hh.2⟩]
theorem numS_yes {l : List UInt8} (hne : l ≠ []) (h : ∀ b ∈ l, digitB b.toNat = true) (hd : dval l < 9223372036854775808) (he : dig (dval l) = l) : numS l = some (dval l : Int) := by
  have := numS_dig hd
  rwa [he] at this
theorem numS_no {l : List UInt8} (hne : l ≠ []) (h : ∀ b ∈ l, digitB b.toNat = true) (he : ¬ (dval l < 9223372036854775808 ∧ dig (dval l) = l)) : numS l = none := by
  unfold numS
  apply if_neg
  rintro ⟨h1, h2⟩
  exact he ⟨h1, (dig_dval _ l rfl hne h fun hl e => h2 ⟨hl, e⟩).1⟩
theorem numS_long {l : List UInt8} (hne : l ≠ []) (h : ∀ b ∈ l, digitB b.toNat = true) (hl : 19 < l.length) : numS l = none := by
  apply numS_no hne h
  rintro ⟨h1, h2⟩
  have := dig_len (n := dval l) (k := 19) (by omega) (by omega)
  rw [h2] at this
  omega
end Vai
