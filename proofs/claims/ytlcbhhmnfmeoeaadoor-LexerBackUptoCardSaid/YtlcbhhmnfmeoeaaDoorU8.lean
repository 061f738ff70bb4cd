import Derived.Test.YtlcbhhmnfmeoeaaDoorU7
set_option linter.unusedSimpArgs false
set_option linter.unusedVariables false
set_option linter.unusedSectionVars false
/-
  A text that is cut ahead of a token.
-/
namespace Vai
open Go
theorem bad_ge' (s : ByteArray) (i : Nat) : bad s i = -1 ∨ (i : Int) ≤ bad s i := by
  fun_induction bad s i with
  | case1 => exact .inl rfl
  | case2 => exact .inr (by omega)
  | case3 i h1 h2 ih => omega
theorem bad_split {s : ByteArray} {p : Nat} (hp : p < s.size) (h128 : bt s p < 128) {i : Nat} (hi : i ≤ p) (hb : bad s i = -1) : bad s p = -1 ∧ bad (s.extract 0 p) i = -1 := by
  have hsz := size_ext (s := s) (a := 0) (Nat.le_of_lt hp)
  fun_induction bad s i with
  | case1 => omega
  | case2 => omega
  | case3 i h1 h2 ih =>
    by_cases hip : i = p
    · subst hip
      refine ⟨by rw [bad_step (by omega), if_neg h2]; exact hb, by rw [bad, if_pos (by omega)]⟩
    · have hle : i + (nx s i).2 ≤ p := by
        apply Classical.byContradiction
        intro hn
        have := (nx_conts (s := s) (i := i)).2 (p - i) (by omega) (by omega)
        rw [show i + (p - i) = p by omega] at this
        have := cont_ge this
        omega
      have hnx := nx_pre (Nat.le_of_lt hp) hle h2
      obtain ⟨k1, k2⟩ := ih hle hb
      refine ⟨k1, ?_⟩
      rw [bad_step (by omega), hnx, if_neg h2]
      exact k2
theorem bad_suf {s : ByteArray} {p : Nat} (hp : p ≤ s.size) {i : Nat} (hb : bad s (p + i) = -1) : bad (s.extract p s.size) i = -1 := by
  have hsz := size_ext (s := s) (a := p) (Nat.le_refl _)
  generalize hk : p + i = k at hb
  fun_induction bad s k generalizing i with
  | case1 k h => rw [bad, if_pos (by omega)]
  | case2 => omega
  | case3 k h1 h2 ih =>
    subst hk
    rw [bad_step (by omega), nx_suf hp, if_neg h2]
    exact ih (by omega) hb
theorem tok1_pos {s : ByteArray} {i j : Nat} {t : Tk} (h : tok1 s i = .ok (t, j)) : t.pos = i ∧ bt s i < 128 := by
  unfold tok1 at h
  split at h
  · rename_i h1
    simp only [digitB, decide_eq_true_eq] at h1
    split at h
    · cases h; exact ⟨rfl, by omega⟩
    · cases h
  split at h
  · rename_i h1
    simp only [letterB, decide_eq_true_eq] at h1
    cases h; exact ⟨rfl, by omega⟩
  split at h
  · split at h
    · split at h
      · cases h
      · cases h; exact ⟨rfl, by omega⟩
    · cases h
  split at h
  · cases h
  · rename_i h1
    cases h
    refine ⟨rfl, ?_⟩
    unfold signL at h1
    split at h1
    · rename_i h2; omega
    · split at h1
      · omega
      · exact absurd rfl h1
theorem toks_acc {s : ByteArray} {i : Nat} {acc acc' m : List Tk} (h : toks s i (acc ++ acc') = .ok m) : ∃ l, m = acc ++ l ∧ toks s i acc' = .ok l := by
  generalize ha : acc ++ acc' = A at h
  fun_induction toks s i A generalizing acc' with
  | case1 i A h1 =>
    cases h
    subst ha
    exact ⟨acc', rfl, by rw [toks, if_pos h1]⟩
  | case2 => cases h
  | case3 i A h1 t j ht h2 ih =>
    subst ha
    obtain ⟨l, h3, h4⟩ := ih (acc' := acc' ++ [t]) (by simp) h
    refine ⟨l, h3, ?_⟩
    rw [toks, if_neg h1, ht]
    simp only
    rw [dif_pos h2]
    exact h4
  | case4 i A h1 t j ht h2 =>
    cases h
    subst ha
    refine ⟨acc', rfl, ?_⟩
    rw [toks, if_neg h1, ht]
    simp only
    rw [dif_neg h2]
theorem toks_more {s : ByteArray} {acc : List Tk} {i : Nat} {A : List Tk} : ∀ {l}, toks s i A = .ok l → toks s i (acc ++ A) = .ok (acc ++ l) := by
  fun_induction toks s i A with
  | case1 i A h1 => intro l h; cases h; rw [toks, if_pos h1]
  | case2 => intro l h; cases h
  | case3 i A h1 t j ht h2 ih =>
    intro l h
    rw [toks, if_neg h1, ht]
    simp only
    rw [dif_pos h2, List.append_assoc]
    exact ih h
  | case4 i A h1 t j ht h2 =>
    intro l h
    cases h
    rw [toks, if_neg h1, ht]
    simp only
    rw [dif_neg h2]
theorem toks_acc' {s : ByteArray} {i : Nat} {acc l : List Tk} (h : toks s i [] = .ok l) : toks s i acc = .ok (acc ++ l) := by
  have := toks_more (acc := acc) h
  simpa using this
/-- The first token, and the others. -/
theorem toks_cons {s : ByteArray} {i : Nat} {l : List Tk} (hi : i ≤ s.size) (h : toks s i [] = .ok l) : (s.size ≤ runTo blankB s i ∧ l = []) ∨ ∃ t j l', runTo blankB s i < s.size ∧ tok1 s (runTo blankB s i) = .ok (t, j) ∧ l = t :: l' ∧ toks s j [] = .ok l' := by
  have hge := runTo_ge blankB s i
  rw [toks] at h
  by_cases h1 : s.size ≤ runTo blankB s i
  · rw [if_pos h1] at h
    cases h
    exact .inl ⟨h1, rfl⟩
  · rw [if_neg h1] at h
    cases ht : tok1 s (runTo blankB s i) with
    | error f => rw [ht] at h; cases h
    | ok tj =>
      obtain ⟨t, j⟩ := tj
      rw [ht] at h
      have hgt := tok1_gt (by omega) ht
      simp only at h
      rw [dif_pos ⟨by omega, by omega⟩] at h
      obtain ⟨l', h3, h4⟩ := toks_acc (acc := [t]) (acc' := []) (by simpa using h)
      exact .inr ⟨t, j, l', by omega, rfl, by simpa using h3, h4⟩
theorem toks_mk {s : ByteArray} {i j : Nat} {t : Tk} {l : List Tk} (h1 : runTo blankB s i < s.size) (ht : tok1 s (runTo blankB s i) = .ok (t, j)) (h : toks s j [] = .ok l) : toks s i [] = .ok (t :: l) := by
  have hge := runTo_ge blankB s i
  have hgt := tok1_gt (by omega) ht
  rw [toks, if_neg (by omega), ht]
  simp only
  rw [dif_pos ⟨by omega, by omega⟩, List.nil_append]
  have := toks_acc' (acc := [t]) h
  simpa using this
theorem toks_split {s : ByteArray} : ∀ (k : Nat) {i : Nat} {l : List Tk}, i ≤ s.size → toks s i [] = .ok l → ∀ t, l[k]? = some t → ∃ p : Nat, t.pos = p ∧ i ≤ p ∧ p < s.size ∧ bt s p < 128 ∧ toks (s.extract 0 p) i [] = .ok (l.take k) ∧ toks s p [] = .ok (l.drop k) := by
  intro k
  induction k with
  | zero =>
    intro i l hi h t ht
    rcases toks_cons hi h with ⟨_, rfl⟩ | ⟨t', j, l', h1, h2, rfl, h3⟩
    · simp at ht
    · simp only [List.getElem?_cons_zero, Option.some.injEq] at ht
      subst ht
      obtain ⟨hp, hb⟩ := tok1_pos h2
      have hge := runTo_ge blankB s i
      have hsz := size_ext (s := s) (a := 0) (Nat.le_of_lt h1)
      refine ⟨_, hp, hge, h1, hb, ?_, ?_⟩
      · rw [toks, if_pos (by rw [runTo_pre (Nat.le_of_lt h1) hge (Nat.le_refl _)]; omega)]
        rfl
      · rw [List.drop_zero]
        have hr : runTo blankB s (runTo blankB s i) = runTo blankB s i := runTo_stop (runTo_stops hi)
        exact toks_mk (by rw [hr]; exact h1) (by rw [hr]; exact h2) h3
  | succ k ih =>
    intro i l hi h t ht
    rcases toks_cons hi h with ⟨_, rfl⟩ | ⟨t', j, l', h1, h2, rfl, h3⟩
    · simp at ht
    · simp only [List.getElem?_cons_succ] at ht
      have hgt := tok1_gt h1 h2
      obtain ⟨p, e1, e2, e3, e4, e5, e6⟩ := ih hgt.2 h3 t ht
      have hge := runTo_ge blankB s i
      have hsz := size_ext (s := s) (a := 0) (Nat.le_of_lt e3)
      refine ⟨p, e1, by omega, e3, e4, ?_, by rw [List.drop_succ_cons]; exact e6⟩
      have hr : runTo blankB (s.extract 0 p) i = runTo blankB s i := runTo_pre (Nat.le_of_lt e3) (by omega) (by omega)
      rw [List.take_succ_cons]
      exact toks_mk (by rw [hr]; omega) (by rw [hr]; exact tok1_pre (Nat.le_of_lt e3) h2 e2 (by omega)) e5
theorem toks_suf {s : ByteArray} {p : Nat} (hp : p ≤ s.size) : ∀ (n : Nat) {i : Nat} {l : List Tk}, s.size - (p + i) ≤ n → p + i ≤ s.size → toks s (p + i) [] = .ok l → toks (s.extract p s.size) i [] = .ok (l.map (Tk.back p)) := by
  have hsz := size_ext (s := s) (a := p) (Nat.le_refl _)
  intro n
  induction n with
  | zero =>
    intro i l hn hi h
    rw [toks_over (by omega)] at h
    cases h
    rw [toks_over (by omega)]
    rfl
  | succ n ih =>
    intro i l hn hi h
    have hr := runTo_suf hp (P := blankB) (i := i)
    have hge := runTo_ge blankB (s.extract p s.size) i
    rcases toks_cons hi h with ⟨h1, rfl⟩ | ⟨t, j, l', h1, h2, rfl, h3⟩
    · rw [toks, if_pos (by omega)]
      rfl
    · rw [← hr] at h1 h2
      have hgt := tok1_gt h1 h2
      obtain ⟨j', rfl, ht⟩ := tok1_suf hp h2 h1
      have := ih (by omega) hgt.2 h3
      exact toks_mk (by omega) ht this
/-- A formula is cut ahead of a token. -/
theorem lexS_split {s : ByteArray} {l : List Tk} {a : Int} (h : lexS s = (l, a, 0)) {k : Nat} {t : Tk} (ht : l[k]? = some t) : ∃ p : Nat, t.pos = p ∧ p < s.size ∧ s.size ≤ 256 ∧ lexS (s.extract 0 p) = (l.take k, 0, 0) ∧ lexS (s.extract p s.size) = ((l.drop k).map (Tk.back p), 0, 0) := by
  unfold lexS at h
  by_cases h1 : 256 < s.size
  · rw [if_pos h1] at h
    simp at h
  rw [if_neg h1] at h
  by_cases h2 : 0 ≤ bad s 0
  · rw [if_pos h2] at h
    simp at h
  rw [if_neg h2] at h
  cases hk : toks s 0 [] with
  | error f =>
    obtain ⟨b, w⟩ := f
    rw [hk] at h
    simp only [Prod.mk.injEq] at h
    obtain ⟨rfl, _, _⟩ := h
    simp at ht
  | ok l' =>
    rw [hk] at h
    simp only [Prod.mk.injEq] at h
    obtain ⟨rfl, _, _⟩ := h
    obtain ⟨p, e1, e2, e3, e4, e5, e6⟩ := toks_split k (Nat.zero_le _) hk t ht
    have hbd : bad s 0 = -1 := by rcases bad_ge' s 0 with h | h <;> omega
    obtain ⟨b1, b2⟩ := bad_split e3 e4 (Nat.zero_le _) hbd
    have b3 := bad_suf (i := 0) (Nat.le_of_lt e3) b1
    have hs1 := size_ext (s := s) (a := 0) (Nat.le_of_lt e3)
    have hs2 := size_ext (s := s) (a := p) (Nat.le_refl _)
    have e7 := toks_suf (Nat.le_of_lt e3) s.size (i := 0) (by omega) (by omega) e6
    refine ⟨p, e1, e3, by omega, ?_, ?_⟩
    · unfold lexS
      rw [if_neg (by omega), b2, if_neg (by decide), e5]
    · unfold lexS
      rw [if_neg (by omega), b3, if_neg (by decide), e7]
end Vai
