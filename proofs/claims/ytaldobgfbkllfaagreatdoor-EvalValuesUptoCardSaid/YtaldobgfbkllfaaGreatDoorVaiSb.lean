import Derived.Test.YtaldobgfbkllfaaGreatDoorVaiSa
set_option linter.unusedSimpArgs false
set_option linter.unusedVariables false
set_option linter.unusedSectionVars false
/-
  What a text behind backslashes means.
-/
namespace Vai
open Go
theorem chs_step {s : ByteArray} {i : Nat} (hi : i < s.size) : chs s i = if (nx s i).2 = 0 ∨ charB (nx s i).1 = false then false else chs s (i + (nx s i).2) := by
  rw [chs, if_neg (by omega)]
  split <;> rfl
theorem chs_over {s : ByteArray} {i : Nat} (hi : s.size ≤ i) : chs s i = true := by rw [chs, if_pos hi]
theorem bad_step {s : ByteArray} {i : Nat} (hi : i < s.size) : bad s i = if (nx s i).2 = 0 then (i : Int) else bad s (i + (nx s i).2) := by
  rw [bad, if_neg (by omega)]
end Vai

/-
  A text's beginning and its end, and their tokens.
-/
namespace Vai
open Go
section
variable {s : ByteArray} {p : Nat} (hp : p ≤ s.size)
include hp
end
def Tk.back (p : Nat) (t : Tk) : Tk := { t with pos := t.pos - p }
section
variable {s : ByteArray} {p : Nat} (hp : p ≤ s.size)
include hp
end
end Vai

/-
  A text that is cut ahead of a token.
-/
namespace Vai
open Go
end Vai

/-
  Tokens that are written with blanks between them.
-/
namespace Vai
open Go
def GoodT (t : Tk) : Prop := (t.kind = 1 ∧ t.text = noText ∧ ∃ n : Nat, t.n = n ∧ n < 9223372036854775808) ∨ (t.kind = 2 ∧ t.n = 0 ∧ chs t.text 0 = true ∧ t.text.size ≤ 64) ∨
  (t.kind = 3 ∧ t.n = 0 ∧ t.text.size ≤ 256 ∧ ∃ x l, t.text.data.toList = x :: l ∧ letterB x.toNat = true ∧ ∀ b ∈ l, wordB b.toNat = true) ∨
  (t.kind = 4 ∧ t.n = 0 ∧ ((∃ x y, t.text.data.toList = [x, y] ∧ ((x.toNat = 61 ∧ y.toNat = 61) ∨ (x.toNat = 33 ∧ y.toNat = 61) ∨ (x.toNat = 60 ∧ y.toNat = 61) ∨ (x.toNat = 62 ∧ y.toNat = 61) ∨ (x.toNat = 38 ∧ y.toNat = 38) ∨ (x.toNat = 124 ∧ y.toNat = 124))) ∨
    ∃ x, t.text.data.toList = [x] ∧ (x.toNat = 43 ∨ x.toNat = 45 ∨ x.toNat = 42 ∨ x.toNat = 47 ∨ x.toNat = 37 ∨ x.toNat = 40 ∨ x.toNat = 41 ∨ x.toNat = 63 ∨ x.toNat = 58 ∨ x.toNat = 33 ∨ x.toNat = 60 ∨ x.toNat = 62)))
def wr (t : Tk) : List UInt8 := if t.kind = 1 then decL t.n else if t.kind = 2 then 34 :: (esc t.text.data.toList ++ [34]) else t.text.data.toList
def catT (sep : List UInt8) (l : List Tk) : List UInt8 := l.flatMap fun t => wr t ++ sep
def likeT (a b : Tk) : Prop := a.kind = b.kind ∧ a.text = b.text ∧ a.n = b.n
end Vai

/-
  The tokens of a formula are good.
-/
namespace Vai
open Go
end Vai

/-
  Go's own runes of a text, where they are right.
-/
namespace Vai
open Go
theorem get_bt (s : ByteArray) (j : Nat) : (s.get! j).toNat = bt s j := by
  cases s with
  | mk d =>
    show (d[j]!).toNat = match d[j]? with | some b => b.toNat | none => 0
    rw [getElem!_def]
    cases h : d[j]? <;> rfl
theorem cont_bt (s : ByteArray) (j : Nat) : (decide (j < s.size) && bt s j / 64 == 2) = contB (bt s j) := by
  by_cases h : contB (bt s j) = true
  · rw [h]
    have := cont_lt h
    simp only [contB] at h
    simp [this, h]
  · have h' : contB (bt s j) = false := by simpa using h
    rw [h']
    simp only [contB] at h'
    simp [h']
theorem dec_nx {s : ByteArray} {i : Nat} (h : (nx s i).2 ≠ 0) : ((Utf8.decode s i).1 : Int) = (nx s i).1 ∧ (Utf8.decode s i).2 = (nx s i).2 := by
  unfold Utf8.decode
  simp only [get_bt, cont_bt, Nat.add_zero]
  unfold nx at h ⊢
  by_cases c0 : s.size ≤ i
  · rw [if_pos c0] at h; exact absurd rfl h
  rw [if_neg c0] at h ⊢
  simp only at h ⊢
  by_cases c1 : bt s i < 128
  · rw [if_pos c1, if_pos c1]; exact ⟨rfl, rfl⟩
  rw [if_neg c1] at h ⊢
  rw [if_neg c1]
  by_cases c2 : bt s i < 192
  · rw [if_pos c2] at h; exact absurd rfl h
  rw [if_neg c2] at h ⊢
  by_cases c3 : bt s i < 224
  · rw [if_pos c3] at h ⊢
    by_cases g : i + 2 ≤ s.size ∧ contB (bt s (i + 1)) = true ∧ 128 ≤ bt s i % 32 * 64 + bt s (i + 1) % 64
    · rw [if_pos g]
      have e : bt s i / 32 = 6 := by omega
      rw [if_pos (by simp [e, g.2.1]), if_pos g.2.2]
      exact ⟨rfl, rfl⟩
    · rw [if_neg g] at h; exact absurd rfl h
  rw [if_neg c3] at h ⊢
  have e6 : ¬ bt s i / 32 = 6 := by omega
  rw [if_neg (by simp [e6])]
  by_cases c4 : bt s i < 240
  · rw [if_pos c4] at h ⊢
    by_cases g : i + 3 ≤ s.size ∧ contB (bt s (i + 1)) = true ∧ contB (bt s (i + 2)) = true ∧ 2048 ≤ bt s i % 16 * 4096 + bt s (i + 1) % 64 * 64 + bt s (i + 2) % 64 ∧ (bt s i % 16 * 4096 + bt s (i + 1) % 64 * 64 + bt s (i + 2) % 64 < 55296 ∨ 57343 < bt s i % 16 * 4096 + bt s (i + 1) % 64 * 64 + bt s (i + 2) % 64)
    · rw [if_pos g]
      have e : bt s i / 16 = 14 := by omega
      rw [if_pos (by simp [e, g.2.1, g.2.2.1])]
      have hv : (decide (bt s i % 16 * 4096 + bt s (i + 1) % 64 * 64 + bt s (i + 2) % 64 ≥ 2048) && Utf8.valid (bt s i % 16 * 4096 + bt s (i + 1) % 64 * 64 + bt s (i + 2) % 64 : Nat)) = true := by
        have g1 := g.2.2.2.1
        have g2 := g.2.2.2.2
        simp [Utf8.valid]
        omega
      rw [if_pos hv]
      exact ⟨rfl, rfl⟩
    · rw [if_neg g] at h; exact absurd rfl h
  rw [if_neg c4] at h ⊢
  have e14 : ¬ bt s i / 16 = 14 := by omega
  rw [if_neg (by simp [e14])]
  by_cases c5 : bt s i < 248
  · rw [if_pos c5] at h ⊢
    by_cases g : i + 4 ≤ s.size ∧ contB (bt s (i + 1)) = true ∧ contB (bt s (i + 2)) = true ∧ contB (bt s (i + 3)) = true ∧ 65536 ≤ bt s i % 8 * 262144 + bt s (i + 1) % 64 * 4096 + bt s (i + 2) % 64 * 64 + bt s (i + 3) % 64 ∧ bt s i % 8 * 262144 + bt s (i + 1) % 64 * 4096 + bt s (i + 2) % 64 * 64 + bt s (i + 3) % 64 ≤ 1114111
    · rw [if_pos g]
      have e : bt s i / 8 = 30 := by omega
      rw [if_pos (by simp [e, g.2.1, g.2.2.1, g.2.2.2.1])]
      have hv : (decide (bt s i % 8 * 262144 + bt s (i + 1) % 64 * 4096 + bt s (i + 2) % 64 * 64 + bt s (i + 3) % 64 ≥ 65536) && Utf8.valid (bt s i % 8 * 262144 + bt s (i + 1) % 64 * 4096 + bt s (i + 2) % 64 * 64 + bt s (i + 3) % 64 : Nat)) = true := by
        have g1 := g.2.2.2.2.1
        have g2 := g.2.2.2.2.2
        simp [Utf8.valid]
        omega
      rw [if_pos hv]
      exact ⟨rfl, rfl⟩
    · rw [if_neg g] at h; exact absurd rfl h
  rw [if_neg c5] at h
  exact absurd rfl h
theorem bad_chs {s : ByteArray} {i : Nat} (h : 0 ≤ bad s i) : chs s i = false := by
  fun_induction bad s i with
  | case1 => omega
  | case2 i h1 h2 => rw [chs_step (by omega), if_pos (.inl h2)]
  | case3 i h1 h2 ih =>
    rw [chs_step (by omega)]
    by_cases hc : charB (nx s i).1 = false
    · rw [if_pos (.inr hc)]
    · rw [if_neg (by rintro (h | h); exact h2 h; exact hc h)]
      exact ih h
end Vai
