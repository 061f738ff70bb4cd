import Derived.Test.YtlcbhhmnfmeoeaaDoorU0
set_option linter.unusedSimpArgs false
set_option linter.unusedVariables false
set_option linter.unusedSectionVars false
/-
  The tokens of a formula, by definition.
-/
namespace Vai
open Go
def digitB (c : Nat) : Bool := decide (48 ≤ c ∧ c ≤ 57)
def letterB (c : Nat) : Bool := decide ((65 ≤ c ∧ c ≤ 90) ∨ (97 ≤ c ∧ c ≤ 122) ∨ c = 95)
def blankB (c : Nat) : Bool := decide (c = 32 ∨ c = 9 ∨ c = 10 ∨ c = 13)
def wordB (c : Nat) : Bool := letterB c || digitB c
/-- Where bytes of a kind end. -/
def runTo (p : Nat → Bool) (s : ByteArray) (i : Nat) : Nat := if i < s.size ∧ p (bt s i) = true then runTo p s (i + 1) else i
termination_by s.size - i
theorem runTo_ge (p : Nat → Bool) (s : ByteArray) (i : Nat) : i ≤ runTo p s i := by
  fun_induction runTo p s i with
  | case1 i h ih => omega
  | case2 i h => omega
theorem runTo_le {p : Nat → Bool} {s : ByteArray} {i : Nat} (h : i ≤ s.size) : runTo p s i ≤ s.size := by
  fun_induction runTo p s i with
  | case1 i h ih => exact ih (by omega)
  | case2 i h => exact h
theorem runTo_step {p : Nat → Bool} {s : ByteArray} {i : Nat} (h : i < s.size) (hp : p (bt s i) = true) : runTo p s (i + 1) = runTo p s i := by
  conv => rhs; rw [runTo, if_pos ⟨h, hp⟩]
theorem runTo_stop {p : Nat → Bool} {s : ByteArray} {i : Nat} (h : ¬ (i < s.size ∧ p (bt s i) = true)) : runTo p s i = i := by
  rw [runTo, if_neg h]
theorem nx_char {s : ByteArray} {i : Nat} (h : charB (nx s i).1 = true) : 1 ≤ (nx s i).2 ∧ i + (nx s i).2 ≤ s.size := by
  by_cases h0 : (nx s i).2 = 0
  · exfalso
    have : nx s i = (0, 0) := by
      unfold nx at h0 ⊢
      by_cases hi : s.size ≤ i
      · rw [if_pos hi]
      rw [if_neg hi] at h0 ⊢
      simp only at h0 ⊢
      repeat' split
      all_goals first | rfl | (exfalso; simp_all)
    rw [this] at h
    simp [charB] at h
  · have := nx_some h0
    exact ⟨by omega, this.2.1⟩
def cut (s : ByteArray) (i j : Nat) : List UInt8 := (s.data.toList.drop i).take (j - i)
theorem extract_cut {s : ByteArray} {i j : Nat} (h : i ≤ j) : s.extract i j = ⟨(cut s i j).toArray⟩ := by
  have := extract_bytes s i (j - i)
  rw [show i + (j - i) = j by omega] at this
  rw [cut, ← this]
theorem cut_len {s : ByteArray} {i j : Nat} (h : j ≤ s.size) : (cut s i j).length = j - i := by simp [cut]; omega
/-- What a text means whose bytes begin at i, and where its end stands; or a fault's place and why. -/
def txt (s : ByteArray) (fr : Nat) (i : Nat) (out : List UInt8) : Except (Nat × Int) (List UInt8 × Nat) :=
  if s.size ≤ i then .error (fr, 84)
  else if bt s i = 34 then .ok (out, i)
  else if bt s i = 92 then
    if i + 1 = s.size then .error (fr, 84)
    else if bt s (i + 1) ≠ 34 ∧ bt s (i + 1) ≠ 92 then .error (i, 121)
    else if h : charB (nx s (i + 1)).1 = true then txt s fr (i + 1 + (nx s (i + 1)).2) (out ++ cut s (i + 1) (i + 1 + (nx s (i + 1)).2))
    else .error (i + 1, 81)
  else if h : charB (nx s i).1 = true then txt s fr (i + (nx s i).2) (out ++ cut s i (i + (nx s i).2))
  else .error (i, 81)
termination_by s.size - i
decreasing_by
  · have := nx_char h; omega
  · have := nx_char h; omega
def signL (s : ByteArray) (i : Nat) : Nat :=
  if i + 2 ≤ s.size ∧ ((bt s i = 61 ∧ bt s (i + 1) = 61) ∨ (bt s i = 33 ∧ bt s (i + 1) = 61) ∨ (bt s i = 60 ∧ bt s (i + 1) = 61) ∨ (bt s i = 62 ∧ bt s (i + 1) = 61) ∨ (bt s i = 38 ∧ bt s (i + 1) = 38) ∨ (bt s i = 124 ∧ bt s (i + 1) = 124)) then 2
  else if bt s i = 43 ∨ bt s i = 45 ∨ bt s i = 42 ∨ bt s i = 47 ∨ bt s i = 37 ∨ bt s i = 40 ∨ bt s i = 41 ∨ bt s i = 63 ∨ bt s i = 58 ∨ bt s i = 33 ∨ bt s i = 60 ∨ bt s i = 62 then 1
  else 0
/-- Digits' number. -/
def dval (l : List UInt8) : Nat := l.foldl (fun n c => n * 10 + (c.toNat - 48)) 0
def numS (l : List UInt8) : Option Int := if dval l < 9223372036854775808 ∧ ¬ (1 < l.length ∧ (l.getD 0 0).toNat = 48) then some (dval l : Int) else none
structure Tk where
  kind : Int
  text : ByteArray
  n : Int
  pos : Int
def Tk.t (k : Tk) : T := .agg [.int .i64 k.kind, .str k.text, .int .i64 k.n, .int .i64 k.pos]
def noText : ByteArray := ⟨#[]⟩
/-- The token that begins at i, and where it ends; or a fault. -/
def tok1 (s : ByteArray) (i : Nat) : Except (Nat × Int) (Tk × Nat) :=
  if digitB (bt s i) = true then
    match numS (cut s i (runTo digitB s i)) with
    | some n => .ok (⟨1, noText, n, i⟩, runTo digitB s i)
    | none => .error (i, 122)
  else if letterB (bt s i) = true then .ok (⟨3, s.extract i (runTo wordB s i), 0, i⟩, runTo wordB s i)
  else if bt s i = 34 then
    match txt s i (i + 1) [] with
    | .ok (out, e) => if 64 < out.length then .error (i, 3) else .ok (⟨2, ⟨out.toArray⟩, 0, i⟩, e + 1)
    | .error f => .error f
  else if signL s i = 0 then .error (i, 121)
  else .ok (⟨4, s.extract i (i + signL s i), 0, i⟩, i + signL s i)
def toks (s : ByteArray) (i : Nat) (acc : List Tk) : Except (Nat × Int) (List Tk) :=
  if s.size ≤ runTo blankB s i then .ok acc
  else match tok1 s (runTo blankB s i) with
    | .error f => .error f
    | .ok (t, j) => if h : i < j ∧ i < s.size then toks s j (acc ++ [t]) else .ok acc
termination_by s.size - i
def lexS (s : ByteArray) : List Tk × Int × Int :=
  if 256 < s.size then ([], 0, 3)
  else if 0 ≤ bad s 0 then ([], bad s 0, 71)
  else match toks s 0 [] with
    | .ok l => (l, 0, 0)
    | .error (a, w) => ([], a, w)
theorem txt_gt {s : ByteArray} {fr i : Nat} {out out' : List UInt8} {e : Nat} (h : txt s fr i out = .ok (out', e)) : i ≤ e ∧ e < s.size := by
  fun_induction txt s fr i out with
  | case1 => cases h
  | case2 i out h1 h2 => cases h; omega
  | case3 => cases h
  | case4 => cases h
  | case5 i out h1 h2 h3 h4 h5 hc ih => have := ih h; omega
  | case6 => cases h
  | case7 i out h1 h2 h3 hc ih => have := ih h; omega
  | case8 => cases h
theorem signL_le {s : ByteArray} {i : Nat} (h : i < s.size) : i + signL s i ≤ s.size := by
  unfold signL; split
  · omega
  · split <;> omega
theorem tok1_gt {s : ByteArray} {i : Nat} (hi : i < s.size) {t : Tk} {j : Nat} (h : tok1 s i = .ok (t, j)) : i < j ∧ j ≤ s.size := by
  unfold tok1 at h
  split at h
  · rename_i hd
    split at h
    · cases h
      have h1 := runTo_ge digitB s (i + 1)
      rw [runTo_step hi hd] at h1
      exact ⟨by omega, runTo_le (by omega)⟩
    · cases h
  · split at h
    · rename_i hl
      cases h
      have hw : wordB (bt s i) = true := by simp [wordB, hl]
      have h1 := runTo_ge wordB s (i + 1)
      rw [runTo_step hi hw] at h1
      exact ⟨by omega, runTo_le (by omega)⟩
    · split at h
      · split at h
        · rename_i out e ht
          split at h
          · cases h
          · cases h
            have := txt_gt ht
            omega
        · cases h
      · split at h
        · cases h
        · rename_i hn
          cases h
          exact ⟨by omega, signL_le hi⟩
end Vai
