import Derived.Test.YtlcbhhmnfmeoeaaDoorU1
import Derived.Lib.ParseIntBTie
set_option linter.unusedSimpArgs false
set_option linter.unusedVariables false
set_option linter.unusedSectionVars false
/-
  Digits, and what strconv.ParseInt makes of them.
-/
namespace Vai
open Go
theorem runTo_all {p : Nat → Bool} {s : ByteArray} {i : Nat} : ∀ k, i ≤ k → k < runTo p s i → p (bt s k) = true := by
  fun_induction runTo p s i with
  | case1 i h ih =>
    intro k h1 h2
    by_cases e : k = i
    · subst e; exact h.2
    · exact ih k (by omega) h2
  | case2 i h => intro k h1 h2; omega
theorem cut_get {s : ByteArray} {i j k : Nat} {b : UInt8} (h : (cut s i j)[k]? = some b) : k < j - i ∧ bt s (i + k) = b.toNat := by
  unfold cut at h
  rw [List.getElem?_take] at h
  split at h
  · rename_i hk
    rw [List.getElem?_drop] at h
    simp only [Array.getElem?_toList] at h
    exact ⟨hk, by simp only [bt, h]⟩
  · cases h
theorem cut_all {p : Nat → Bool} {s : ByteArray} {i : Nat} : ∀ b ∈ cut s i (runTo p s i), p b.toNat = true := by
  intro b hb
  obtain ⟨k, hk⟩ := List.getElem?_of_mem hb
  obtain ⟨h1, h2⟩ := cut_get hk
  rw [← h2]
  exact runTo_all (i := i) (i + k) (by omega) (by omega)
def dvalF (acc : Nat) (l : List UInt8) : Nat := l.foldl (fun n c => n * 10 + (c.toNat - 48)) acc
theorem dvalF_ge (acc : Nat) (l : List UInt8) : acc ≤ dvalF acc l := by
  induction l generalizing acc with
  | nil => exact Nat.le_refl _
  | cons c l ih =>
    have := ih (acc * 10 + (c.toNat - 48))
    simp only [dvalF, List.foldl_cons] at this ⊢
    omega
theorem parseM_digits : ∀ (l : List UInt8) (acc : Nat), (∀ b ∈ l, digitB b.toNat = true) → Lib.parseUintM 18446744073709551615 acc l = if dvalF acc l ≤ 18446744073709551615 then .ok (dvalF acc l) else (if l = [] then .ok acc else .range)
  | [], acc, _ => by
    simp only [Lib.parseUintM, dvalF, List.foldl_nil, if_true]
    split <;> rfl
  | c :: r, acc, h => by
    have hc := h c List.mem_cons_self
    simp only [digitB, decide_eq_true_eq] at hc
    have ih := parseM_digits r (acc * 10 + (c.toNat - 48)) fun b hb => h b (List.mem_cons_of_mem _ hb)
    have hge := dvalF_ge (acc * 10 + (c.toNat - 48)) r
    have hd : dvalF acc (c :: r) = dvalF (acc * 10 + (c.toNat - 48)) r := rfl
    rw [hd]
    simp only [Lib.parseUintM]
    rw [if_pos hc]
    by_cases h1 : 1844674407370955162 ≤ acc
    · rw [if_pos h1, if_neg (by omega)]
      simp
    · rw [if_neg h1]
      by_cases h2 : 18446744073709551615 < acc * 10 + (c.toNat - 48)
      · rw [if_pos h2, if_neg (by omega)]
        simp
      · rw [if_neg h2, ih]
        split
        · rfl
        · rename_i h3
          by_cases hr : r = []
          · subst hr
            simp only [dvalF, List.foldl_nil] at h3
            omega
          · simp [hr]
theorem parse_digits {l : List UInt8} (hne : l ≠ []) (h : ∀ b ∈ l, digitB b.toNat = true) : Lib.parseIntB 64 l = if dval l < 9223372036854775808 then .ok (dval l : Int) else .range := by
  match l, hne with
  | c :: r, _ =>
    have hc := h c List.mem_cons_self
    simp only [digitB, decide_eq_true_eq] at hc
    have e1 : (2 : Nat) ^ 64 - 1 = 18446744073709551615 := by decide
    have e2 : (2 : Nat) ^ (64 - 1) = 9223372036854775808 := by decide
    rw [Lib.parseIntB_plain 64 c r (by omega) (by omega)]
    have hp := parseM_digits (c :: r) 0 h
    have hd : dvalF 0 (c :: r) = dval (c :: r) := rfl
    rw [hd] at hp
    have hu : Lib.parseUintB 64 (c :: r) = Lib.parseUintM 18446744073709551615 0 (c :: r) := by simp only [Lib.parseUintB, e1]; rfl
    rw [hu, hp, e2]
    by_cases h1 : dval (c :: r) < 9223372036854775808
    · rw [if_pos (by omega), if_pos h1]
      simp only [Lib.signlessC]
      rw [if_neg (by omega)]
    · rw [if_neg h1]
      by_cases h2 : dval (c :: r) ≤ 18446744073709551615
      · rw [if_pos h2]
        simp only [Lib.signlessC]
        rw [if_pos (by omega)]
      · rw [if_neg h2]
        simp [Lib.signlessC]
/-! signs -/
def sgs : List ByteArray := [⟨#[61, 61]⟩, ⟨#[33, 61]⟩, ⟨#[60, 61]⟩, ⟨#[62, 61]⟩, ⟨#[38, 38]⟩, ⟨#[124, 124]⟩, ⟨#[43]⟩, ⟨#[45]⟩, ⟨#[42]⟩, ⟨#[47]⟩, ⟨#[37]⟩, ⟨#[40]⟩, ⟨#[41]⟩, ⟨#[63]⟩, ⟨#[58]⟩, ⟨#[33]⟩, ⟨#[60]⟩, ⟨#[62]⟩]
/-- Does the sign x begin at i? -/
def atS (s : ByteArray) (i : Nat) (x : ByteArray) : Bool := decide (i + x.size ≤ s.size) && eqS (s.extract i (i + x.size)) x
theorem cut_two {s : ByteArray} {i : Nat} (h : i + 2 ≤ s.size) (a b : UInt8) : s.extract i (i + 2) = ⟨#[a, b]⟩ ↔ bt s i = a.toNat ∧ bt s (i + 1) = b.toNat := by
  rw [extract_cut (by omega)]
  have e : ((⟨(cut s i (i + 2)).toArray⟩ : ByteArray) = ⟨#[a, b]⟩) ↔ cut s i (i + 2) = [a, b] := ba_eq (b := [a, b])
  rw [e]
  have hl := cut_len (s := s) (i := i) (j := i + 2) h
  generalize hc : cut s i (i + 2) = l at hl
  match l, (show l.length = 2 by omega) with
  | [x, y], _ =>
    have g0 := (cut_get (s := s) (i := i) (j := i + 2) (k := 0) (b := x) (by rw [hc]; rfl)).2
    have g1 := (cut_get (s := s) (i := i) (j := i + 2) (k := 1) (b := y) (by rw [hc]; rfl)).2
    simp only [Nat.add_zero] at g0
    rw [g0, g1]
    simp only [List.cons.injEq, and_true]
    constructor
    · rintro ⟨rfl, rfl⟩; exact ⟨rfl, rfl⟩
    · rintro ⟨h1, h2⟩; exact ⟨UInt8.toNat_inj.1 h1, UInt8.toNat_inj.1 h2⟩
theorem cut_one {s : ByteArray} {i : Nat} (h : i + 1 ≤ s.size) (a : UInt8) : s.extract i (i + 1) = ⟨#[a]⟩ ↔ bt s i = a.toNat := by
  rw [extract_cut (by omega)]
  have e : ((⟨(cut s i (i + 1)).toArray⟩ : ByteArray) = ⟨#[a]⟩) ↔ cut s i (i + 1) = [a] := ba_eq (b := [a])
  rw [e]
  have hl := cut_len (s := s) (i := i) (j := i + 1) h
  generalize hc : cut s i (i + 1) = l at hl
  match l, (show l.length = 1 by omega) with
  | [x], _ =>
    have g0 := (cut_get (s := s) (i := i) (j := i + 1) (k := 0) (b := x) (by rw [hc]; rfl)).2
    simp only [Nat.add_zero] at g0
    rw [g0]
    simp only [List.cons.injEq, and_true]
    exact ⟨fun h => by rw [h], fun h => UInt8.toNat_inj.1 h⟩
theorem atS2 (s : ByteArray) (i : Nat) (a b : UInt8) : atS s i ⟨#[a, b]⟩ = decide (i + 2 ≤ s.size ∧ bt s i = a.toNat ∧ bt s (i + 1) = b.toNat) := by
  have e : (⟨#[a, b]⟩ : ByteArray).size = 2 := rfl
  unfold atS eqS
  rw [e]
  by_cases h : i + 2 ≤ s.size
  · simp only [h, decide_true, Bool.true_and, true_and, cut_two h]
  · simp [h]
theorem atS1 (s : ByteArray) (i : Nat) (a : UInt8) : atS s i ⟨#[a]⟩ = decide (i + 1 ≤ s.size ∧ bt s i = a.toNat) := by
  have e : (⟨#[a]⟩ : ByteArray).size = 1 := rfl
  unfold atS eqS
  rw [e]
  by_cases h : i + 1 ≤ s.size
  · simp only [h, decide_true, Bool.true_and, true_and, cut_one h]
  · simp [h]
theorem sign_find {s : ByteArray} {i : Nat} (hi : i < s.size) : match sgs.findIdx? (atS s i) with
    | none => signL s i = 0
    | some k => ∃ x, sgs[k]? = some x ∧ signL s i ≠ 0 ∧ x = s.extract i (i + signL s i) ∧ x.size = signL s i := by
  have hi1 : i + 1 ≤ s.size := hi
  have fin : ∀ k x, sgs.findIdx? (atS s i) = some k → sgs[k]? = some x → signL s i ≠ 0 → x = s.extract i (i + signL s i) → x.size = signL s i → match sgs.findIdx? (atS s i) with
    | none => signL s i = 0
    | some k => ∃ x, sgs[k]? = some x ∧ signL s i ≠ 0 ∧ x = s.extract i (i + signL s i) ∧ x.size = signL s i := fun k x h1 h2 h3 h4 h5 => by rw [h1]; exact ⟨x, h2, h3, h4, h5⟩
  by_cases h2 : i + 2 ≤ s.size ∧ ((bt s i = 61 ∧ bt s (i + 1) = 61) ∨ (bt s i = 33 ∧ bt s (i + 1) = 61) ∨ (bt s i = 60 ∧ bt s (i + 1) = 61) ∨ (bt s i = 62 ∧ bt s (i + 1) = 61) ∨ (bt s i = 38 ∧ bt s (i + 1) = 38) ∨ (bt s i = 124 ∧ bt s (i + 1) = 124))
  · have hs : signL s i = 2 := by unfold signL; rw [if_pos h2]
    obtain ⟨hm, h2⟩ := h2
    rcases h2 with ⟨ha, hb⟩ | ⟨ha, hb⟩ | ⟨ha, hb⟩ | ⟨ha, hb⟩ | ⟨ha, hb⟩ | ⟨ha, hb⟩
    · exact fin 0 ⟨#[61, 61]⟩ (by simp [sgs, List.findIdx?_cons, atS2, atS1, hm, ha, hb]) rfl (by omega) (by rw [hs]; exact ((cut_two hm 61 61).2 ⟨ha, hb⟩).symm) (by rw [hs]; rfl)
    · exact fin 1 ⟨#[33, 61]⟩ (by simp [sgs, List.findIdx?_cons, atS2, atS1, hm, ha, hb]) rfl (by omega) (by rw [hs]; exact ((cut_two hm 33 61).2 ⟨ha, hb⟩).symm) (by rw [hs]; rfl)
    · exact fin 2 ⟨#[60, 61]⟩ (by simp [sgs, List.findIdx?_cons, atS2, atS1, hm, ha, hb]) rfl (by omega) (by rw [hs]; exact ((cut_two hm 60 61).2 ⟨ha, hb⟩).symm) (by rw [hs]; rfl)
    · exact fin 3 ⟨#[62, 61]⟩ (by simp [sgs, List.findIdx?_cons, atS2, atS1, hm, ha, hb]) rfl (by omega) (by rw [hs]; exact ((cut_two hm 62 61).2 ⟨ha, hb⟩).symm) (by rw [hs]; rfl)
    · exact fin 4 ⟨#[38, 38]⟩ (by simp [sgs, List.findIdx?_cons, atS2, atS1, hm, ha, hb]) rfl (by omega) (by rw [hs]; exact ((cut_two hm 38 38).2 ⟨ha, hb⟩).symm) (by rw [hs]; rfl)
    · exact fin 5 ⟨#[124, 124]⟩ (by simp [sgs, List.findIdx?_cons, atS2, atS1, hm, ha, hb]) rfl (by omega) (by rw [hs]; exact ((cut_two hm 124 124).2 ⟨ha, hb⟩).symm) (by rw [hs]; rfl)
  · have n2 : ¬ (i + 2 ≤ s.size ∧ bt s i = 61 ∧ bt s (i + 1) = 61) ∧ ¬ (i + 2 ≤ s.size ∧ bt s i = 33 ∧ bt s (i + 1) = 61) ∧ ¬ (i + 2 ≤ s.size ∧ bt s i = 60 ∧ bt s (i + 1) = 61) ∧ ¬ (i + 2 ≤ s.size ∧ bt s i = 62 ∧ bt s (i + 1) = 61) ∧ ¬ (i + 2 ≤ s.size ∧ bt s i = 38 ∧ bt s (i + 1) = 38) ∧ ¬ (i + 2 ≤ s.size ∧ bt s i = 124 ∧ bt s (i + 1) = 124) := by
      refine ⟨?_, ?_, ?_, ?_, ?_, ?_⟩ <;> rintro ⟨k1, k2, k3⟩ <;> apply h2 <;> simp [k1, k2, k3]
    obtain ⟨n1, n2, n3, n4, n5, n6⟩ := n2
    by_cases h1 : bt s i = 43 ∨ bt s i = 45 ∨ bt s i = 42 ∨ bt s i = 47 ∨ bt s i = 37 ∨ bt s i = 40 ∨ bt s i = 41 ∨ bt s i = 63 ∨ bt s i = 58 ∨ bt s i = 33 ∨ bt s i = 60 ∨ bt s i = 62
    · have hs : signL s i = 1 := by unfold signL; rw [if_neg h2, if_pos h1]
      rcases h1 with ha | ha | ha | ha | ha | ha | ha | ha | ha | ha | ha | ha
      · exact fin 6 ⟨#[43]⟩ (by
          rw [ha] at n1 n2 n3 n4 n5 n6
          simp only [sgs, List.findIdx?_cons, atS2, atS1, ha]
          simp [hi1] at n1 n2 n3 n4 n5 n6 ⊢
          try (intros; omega)) rfl (by omega) (by rw [hs]; exact ((cut_one hi1 43).2 ha).symm) (by rw [hs]; rfl)
      · exact fin 7 ⟨#[45]⟩ (by
          rw [ha] at n1 n2 n3 n4 n5 n6
          simp only [sgs, List.findIdx?_cons, atS2, atS1, ha]
          simp [hi1] at n1 n2 n3 n4 n5 n6 ⊢
          try (intros; omega)) rfl (by omega) (by rw [hs]; exact ((cut_one hi1 45).2 ha).symm) (by rw [hs]; rfl)
      · exact fin 8 ⟨#[42]⟩ (by
          rw [ha] at n1 n2 n3 n4 n5 n6
          simp only [sgs, List.findIdx?_cons, atS2, atS1, ha]
          simp [hi1] at n1 n2 n3 n4 n5 n6 ⊢
          try (intros; omega)) rfl (by omega) (by rw [hs]; exact ((cut_one hi1 42).2 ha).symm) (by rw [hs]; rfl)
      · exact fin 9 ⟨#[47]⟩ (by
          rw [ha] at n1 n2 n3 n4 n5 n6
          simp only [sgs, List.findIdx?_cons, atS2, atS1, ha]
          simp [hi1] at n1 n2 n3 n4 n5 n6 ⊢
          try (intros; omega)) rfl (by omega) (by rw [hs]; exact ((cut_one hi1 47).2 ha).symm) (by rw [hs]; rfl)
      · exact fin 10 ⟨#[37]⟩ (by
          rw [ha] at n1 n2 n3 n4 n5 n6
          simp only [sgs, List.findIdx?_cons, atS2, atS1, ha]
          simp [hi1] at n1 n2 n3 n4 n5 n6 ⊢
          try (intros; omega)) rfl (by omega) (by rw [hs]; exact ((cut_one hi1 37).2 ha).symm) (by rw [hs]; rfl)
      · exact fin 11 ⟨#[40]⟩ (by
          rw [ha] at n1 n2 n3 n4 n5 n6
          simp only [sgs, List.findIdx?_cons, atS2, atS1, ha]
          simp [hi1] at n1 n2 n3 n4 n5 n6 ⊢
          try (intros; omega)) rfl (by omega) (by rw [hs]; exact ((cut_one hi1 40).2 ha).symm) (by rw [hs]; rfl)
      · exact fin 12 ⟨#[41]⟩ (by
          rw [ha] at n1 n2 n3 n4 n5 n6
          simp only [sgs, List.findIdx?_cons, atS2, atS1, ha]
          simp [hi1] at n1 n2 n3 n4 n5 n6 ⊢
          try (intros; omega)) rfl (by omega) (by rw [hs]; exact ((cut_one hi1 41).2 ha).symm) (by rw [hs]; rfl)
      · exact fin 13 ⟨#[63]⟩ (by
          rw [ha] at n1 n2 n3 n4 n5 n6
          simp only [sgs, List.findIdx?_cons, atS2, atS1, ha]
          simp [hi1] at n1 n2 n3 n4 n5 n6 ⊢
          try (intros; omega)) rfl (by omega) (by rw [hs]; exact ((cut_one hi1 63).2 ha).symm) (by rw [hs]; rfl)
      · exact fin 14 ⟨#[58]⟩ (by
          rw [ha] at n1 n2 n3 n4 n5 n6
          simp only [sgs, List.findIdx?_cons, atS2, atS1, ha]
          simp [hi1] at n1 n2 n3 n4 n5 n6 ⊢
          try (intros; omega)) rfl (by omega) (by rw [hs]; exact ((cut_one hi1 58).2 ha).symm) (by rw [hs]; rfl)
      · exact fin 15 ⟨#[33]⟩ (by
          rw [ha] at n1 n2 n3 n4 n5 n6
          simp only [sgs, List.findIdx?_cons, atS2, atS1, ha]
          simp [hi1] at n1 n2 n3 n4 n5 n6 ⊢
          try (intros; omega)) rfl (by omega) (by rw [hs]; exact ((cut_one hi1 33).2 ha).symm) (by rw [hs]; rfl)
      · exact fin 16 ⟨#[60]⟩ (by
          rw [ha] at n1 n2 n3 n4 n5 n6
          simp only [sgs, List.findIdx?_cons, atS2, atS1, ha]
          simp [hi1] at n1 n2 n3 n4 n5 n6 ⊢
          try (intros; omega)) rfl (by omega) (by rw [hs]; exact ((cut_one hi1 60).2 ha).symm) (by rw [hs]; rfl)
      · exact fin 17 ⟨#[62]⟩ (by
          rw [ha] at n1 n2 n3 n4 n5 n6
          simp only [sgs, List.findIdx?_cons, atS2, atS1, ha]
          simp [hi1] at n1 n2 n3 n4 n5 n6 ⊢
          try (intros; omega)) rfl (by omega) (by rw [hs]; exact ((cut_one hi1 62).2 ha).symm) (by rw [hs]; rfl)
    · have hs : signL s i = 0 := by unfold signL; rw [if_neg h2, if_neg h1]
      have : sgs.findIdx? (atS s i) = none := by
        simp only [not_or] at h1
        simp only [sgs, List.findIdx?_cons, atS2, atS1]
        simp [n1, n2, n3, n4, n5, n6, h1]
        try omega
      rw [this]
      exact hs
end Vai
