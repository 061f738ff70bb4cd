import Derived.Test.YtlcbhhmnfmeoeaaDoorU3
set_option linter.unusedSimpArgs false
set_option linter.unusedVariables false
set_option linter.unusedSectionVars false
/-
  Texts of bytes below 128; the tokens of a numeral.
-/
namespace Vai
open Go
theorem nx_ascii {s : ByteArray} {i : Nat} (h : i < s.size) (hb : bt s i < 128) : nx s i = ((bt s i : Int), 1) := by
  unfold nx
  rw [if_neg (by omega)]
  simp only
  rw [if_pos hb]
theorem bad_ascii {s : ByteArray} {i : Nat} (h : ∀ k, i ≤ k → k < s.size → bt s k < 128) : bad s i = -1 := by
  fun_induction bad s i with
  | case1 => rfl
  | case2 i h1 h2 =>
    rw [nx_ascii (by omega) (h i (by omega) (by omega))] at h2
    simp at h2
  | case3 i h1 h2 ih =>
    exact ih fun k hk hk2 => h k (by omega) hk2
theorem runTo_full {p : Nat → Bool} {s : ByteArray} {i : Nat} (hi : i ≤ s.size) (h : ∀ k, i ≤ k → k < s.size → p (bt s k) = true) : runTo p s i = s.size := by
  fun_induction runTo p s i with
  | case1 i h1 ih => exact ih (by omega) fun k hk hk2 => h k (by omega) hk2
  | case2 i h1 =>
    rcases Nat.lt_or_ge i s.size with h2 | h2
    · exact absurd ⟨h2, h i (by omega) h2⟩ h1
    · omega
theorem runTo_at {p : Nat → Bool} {s : ByteArray} {i j : Nat} (hij : i ≤ j) (hj : j ≤ s.size) (h : ∀ k, i ≤ k → k < j → p (bt s k) = true) (hend : ¬ (j < s.size ∧ p (bt s j) = true)) : runTo p s i = j := by
  fun_induction runTo p s i with
  | case1 i h1 ih =>
    rcases Nat.lt_or_ge i j with h2 | h2
    · exact ih (by omega) fun k hk hk2 => h k (by omega) hk2
    · have : i = j := by omega
      subst this
      exact absurd h1 hend
  | case2 i h1 =>
    rcases Nat.lt_or_ge i j with h2 | h2
    · exact absurd ⟨by omega, h i (by omega) h2⟩ h1
    · omega
theorem bt_list {l : List UInt8} {k : Nat} {b : UInt8} (h : l[k]? = some b) : bt ⟨l.toArray⟩ k = b.toNat := by
  simp only [bt, List.getElem?_toArray, h]
theorem size_list (l : List UInt8) : (⟨l.toArray⟩ : ByteArray).size = l.length := by simp [ByteArray.size]
theorem bt_list_mem {l : List UInt8} {k : Nat} (h : k < l.length) : ∃ b ∈ l, bt ⟨l.toArray⟩ k = b.toNat ∧ l[k]? = some b :=
  ⟨l[k], List.getElem_mem h, bt_list (List.getElem?_eq_getElem h), List.getElem?_eq_getElem h⟩
theorem digit_not {b : Nat} (h : digitB b = true) : blankB b = false ∧ b < 128 := by
  simp only [digitB, decide_eq_true_eq] at h
  simp only [blankB, decide_eq_false_iff_not]
  omega
/-- Ends are no tokens. -/
theorem toks_over {s : ByteArray} {i : Nat} {l : List Tk} (h : s.size ≤ i) : toks s i l = .ok l := by
  have := runTo_ge blankB s i
  rw [toks, if_pos (by omega)]
theorem toks_one {s : ByteArray} {i : Nat} {l : List Tk} (h : i < s.size) (hb : blankB (bt s i) = false) : toks s i l = match tok1 s i with
    | .error f => .error f
    | .ok (t, j) => toks s j (l ++ [t]) := by
  have e := runTo_stop (p := blankB) (s := s) (i := i) (by rw [hb]; simp)
  rw [toks, e, if_neg (by omega)]
  cases ht : tok1 s i with
  | error f => rfl
  | ok tj =>
    obtain ⟨t, j⟩ := tj
    have hgt := tok1_gt (by omega) ht
    simp only
    rw [dif_pos ⟨by omega, h⟩]
/-- A numeral to the text's end. -/
theorem toks_digits {s : ByteArray} {i : Nat} {acc : List Tk} (hi : i < s.size) (hd : ∀ k, i ≤ k → k < s.size → digitB (bt s k) = true) : toks s i acc = match numS (cut s i s.size) with
    | some n => .ok (acc ++ [⟨1, noText, n, i⟩])
    | none => .error (i, 122) := by
  have h0 := hd i (by omega) hi
  rw [toks_one hi (digit_not h0).1]
  unfold tok1
  rw [if_pos h0, runTo_full (by omega) hd]
  cases numS (cut s i s.size) with
  | none => rfl
  | some n => exact toks_over (Nat.le_refl _)
theorem cut_list (l : List UInt8) (i : Nat) : cut ⟨l.toArray⟩ i (⟨l.toArray⟩ : ByteArray).size = l.drop i := by
  rw [size_list, cut]
  exact List.take_of_length_le (by simp)
theorem lexS_digits {l : List UInt8} (h1 : l ≠ []) (hl : l.length ≤ 256) (hall : ∀ b ∈ l, digitB b.toNat = true) : lexS ⟨l.toArray⟩ = match numS l with
    | some n => ([⟨1, noText, n, 0⟩], 0, 0)
    | none => ([], 0, 122) := by
  have hpos : 0 < l.length := List.length_pos_iff.2 h1
  have hd : ∀ k, 0 ≤ k → k < (⟨l.toArray⟩ : ByteArray).size → digitB (bt ⟨l.toArray⟩ k) = true := fun k _ hk => by
    obtain ⟨b, hb, e, _⟩ := bt_list_mem (l := l) (k := k) (by rw [size_list] at hk; exact hk)
    rw [e]; exact hall b hb
  unfold lexS
  rw [if_neg (by rw [size_list]; omega), bad_ascii (fun k h1 h2 => (digit_not (hd k h1 h2)).2), if_neg (by decide), toks_digits (by rw [size_list]; exact hpos) hd, cut_list, List.drop_zero]
  cases numS l <;> rfl
theorem lexS_neg {l : List UInt8} (h1 : l ≠ []) (hl : l.length ≤ 255) (hall : ∀ b ∈ l, digitB b.toNat = true) : lexS ⟨(45 :: l).toArray⟩ = match numS l with
    | some n => ([⟨4, ⟨#[45]⟩, 0, 0⟩, ⟨1, noText, n, 1⟩], 0, 0)
    | none => ([], 1, 122) := by
  have hpos : 0 < l.length := List.length_pos_iff.2 h1
  have hsz := size_list (45 :: l)
  simp only [List.length_cons] at hsz
  have hd : ∀ k, 1 ≤ k → k < (⟨(45 :: l).toArray⟩ : ByteArray).size → digitB (bt ⟨(45 :: l).toArray⟩ k) = true := fun k h1 hk => by
    obtain ⟨b, hb, e, hg⟩ := bt_list_mem (l := 45 :: l) (k := k) (by rw [hsz] at hk; simpa using hk)
    rw [e]
    obtain ⟨k, rfl⟩ : ∃ m, k = m + 1 := ⟨k - 1, by omega⟩
    simp only [List.getElem?_cons_succ] at hg
    exact hall b (List.mem_of_getElem? hg)
  have h0 : bt ⟨(45 :: l).toArray⟩ 0 = 45 := bt_list (l := 45 :: l) (k := 0) (b := 45) rfl
  have hb : bad ⟨(45 :: l).toArray⟩ 0 = -1 := bad_ascii fun k _ h2 => by
    rcases Nat.eq_zero_or_pos k with rfl | hk
    · rw [h0]; decide
    · exact (digit_not (hd k hk h2)).2
  have hd1 := hd 1 (by omega) (by rw [hsz]; omega)
  simp only [digitB, decide_eq_true_eq] at hd1
  have ht : tok1 ⟨(45 :: l).toArray⟩ 0 = .ok (⟨4, ⟨#[45]⟩, 0, 0⟩, 1) := by
    have hs : signL ⟨(45 :: l).toArray⟩ 0 = 1 := by
      unfold signL
      rw [h0, if_neg (by omega), if_pos (by decide)]
    have hx : (⟨(45 :: l).toArray⟩ : ByteArray).extract 0 1 = ⟨#[45]⟩ := (cut_one (s := ⟨(45 :: l).toArray⟩) (i := 0) (by rw [hsz]; omega) 45).2 h0
    unfold tok1
    rw [h0, hs, if_neg (by decide), if_neg (by decide), if_neg (by decide), if_neg (by decide), Nat.zero_add, hx]
    rfl
  unfold lexS
  rw [if_neg (by rw [hsz]; omega), hb, if_neg (by decide), toks_one (by rw [hsz]; omega) (by rw [h0]; decide), ht]
  simp only
  rw [toks_digits (by rw [hsz]; omega) hd, cut_list, List.drop_succ_cons, List.drop_zero]
  cases numS l <;> rfl
theorem dig_is (n : Nat) : dig n ≠ [] ∧ ∀ b ∈ dig n, digitB b.toNat = true := ⟨dig_ne n, dig_all n⟩
end Vai
