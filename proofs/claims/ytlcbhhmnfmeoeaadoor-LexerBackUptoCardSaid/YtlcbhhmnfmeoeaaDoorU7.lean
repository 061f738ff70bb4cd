import Derived.Test.YtlcbhhmnfmeoeaaDoorU6
set_option linter.unusedSimpArgs false
set_option linter.unusedVariables false
set_option linter.unusedSectionVars false
/-
  A text's beginning and its end, and their tokens.
-/
namespace Vai
open Go
theorem size_ext {s : ByteArray} {a b : Nat} (h : b ≤ s.size) : (s.extract a b).size = b - a := by
  simp [ByteArray.size_extract]; omega
theorem bt_ext {s : ByteArray} {a b i : Nat} (hb : b ≤ s.size) (h : a + i < b) : bt (s.extract a b) i = bt s (a + i) := by
  unfold bt
  rw [ByteArray.data_extract, Array.getElem?_extract]
  have : i < min b s.data.size - a := by have : s.data.size = s.size := rfl; omega
  rw [if_pos this]
theorem bt_out {s : ByteArray} {i : Nat} (h : s.size ≤ i) : bt s i = 0 := by
  unfold bt
  rw [Array.getElem?_eq_none (by have : s.data.size = s.size := rfl; omega)]
theorem nx_need {s : ByteArray} {i : Nat} (h : (nx s i).2 ≠ 0) : (128 ≤ bt s i → 2 ≤ (nx s i).2) ∧ (224 ≤ bt s i → 3 ≤ (nx s i).2) ∧ (240 ≤ bt s i → 4 ≤ (nx s i).2) := by
  unfold nx at h ⊢
  by_cases c0 : s.size ≤ i
  · rw [if_pos c0] at h; exact absurd rfl h
  rw [if_neg c0] at h ⊢
  simp only at h ⊢
  by_cases c1 : bt s i < 128
  · rw [if_pos c1]; exact ⟨fun h => by omega, fun h => by omega, fun h => by omega⟩
  rw [if_neg c1] at h ⊢
  by_cases c2 : bt s i < 192
  · rw [if_pos c2] at h; exact absurd rfl h
  rw [if_neg c2] at h ⊢
  by_cases c3 : bt s i < 224
  · rw [if_pos c3] at h ⊢
    split
    · exact ⟨fun h => by omega, fun h => by omega, fun h => by omega⟩
    · rename_i hn; rw [if_neg hn] at h; exact absurd rfl h
  rw [if_neg c3] at h ⊢
  by_cases c4 : bt s i < 240
  · rw [if_pos c4] at h ⊢
    split
    · exact ⟨fun h => by omega, fun h => by omega, fun h => by omega⟩
    · rename_i hn; rw [if_neg hn] at h; exact absurd rfl h
  rw [if_neg c4] at h ⊢
  by_cases c5 : bt s i < 248
  · rw [if_pos c5] at h ⊢
    split
    · exact ⟨fun h => by simp, fun h => by simp, fun h => by simp⟩
    · rename_i hn; rw [if_neg hn] at h; exact absurd rfl h
  rw [if_neg c5] at h
  exact absurd rfl h
theorem runTo_stops {P : Nat → Bool} {s : ByteArray} {i : Nat} (hi : i ≤ s.size) : ¬ (runTo P s i < s.size ∧ P (bt s (runTo P s i)) = true) := by
  fun_induction runTo P s i with
  | case1 i h ih => exact ih (by omega)
  | case2 i h => exact h
section
variable {s : ByteArray} {p : Nat} (hp : p ≤ s.size)
include hp
theorem bt_pre {i : Nat} (h : i < p) : bt (s.extract 0 p) i = bt s i := by
  rw [bt_ext hp (by omega), Nat.zero_add]
theorem nx_pre {i : Nat} (h : i + (nx s i).2 ≤ p) (h0 : (nx s i).2 ≠ 0) : nx (s.extract 0 p) i = nx s i := by
  have hsz := size_ext (a := 0) hp
  obtain ⟨n2, n3, n4⟩ := nx_need h0
  have hi : i < p := by omega
  by_cases h128 : bt s i < 128
  · rw [nx_ascii (by omega) (by rw [bt_pre hp hi]; exact h128), nx_ascii (by omega) h128, bt_pre hp hi]
  have := n2 (by omega)
  refine (nx_congr (by omega) (by omega) (bt_pre hp hi).symm (fun _ => (bt_pre hp (by omega)).symm) (fun h224 _ _ => ?_) (fun h240 _ _ _ => ?_)).symm
  · have := n3 h224; exact (bt_pre hp (by omega)).symm
  · have := n4 h240; exact (bt_pre hp (by omega)).symm
theorem cut_pre {i j : Nat} (hj : j ≤ p) : cut (s.extract 0 p) i j = cut s i j := by
  unfold cut
  rw [show (s.extract 0 p).data.toList = s.data.toList.take p by have := extract_bytes s 0 p; rwa [Nat.zero_add, List.drop_zero] at this]
  rw [List.drop_take, List.take_take]
  congr 1
  omega
theorem ext_pre {i j : Nat} (hij : i ≤ j) (hj : j ≤ p) : (s.extract 0 p).extract i j = s.extract i j := by
  rw [extract_cut hij, extract_cut hij, cut_pre hp hj]
theorem runTo_pre {P : Nat → Bool} {i : Nat} (hi : i ≤ p) (h : runTo P s i ≤ p) : runTo P (s.extract 0 p) i = runTo P s i := by
  have hsz := size_ext (a := 0) hp
  have hge := runTo_ge P s i
  refine runTo_at hge (by omega) (fun k h1 h2 => ?_) (fun ⟨h1, h2⟩ => ?_)
  · rw [bt_pre hp (by omega)]; exact runTo_all k h1 h2
  · rw [bt_pre hp (by omega)] at h2
    exact runTo_stops (i := i) (by omega) ⟨by omega, h2⟩
theorem signL_pre {i : Nat} (h : i + signL s i ≤ p) (h0 : signL s i ≠ 0) : signL (s.extract 0 p) i = signL s i := by
  have hsz := size_ext (a := 0) hp
  have hb0 : bt (s.extract 0 p) i = bt s i := bt_pre hp (by omega)
  unfold signL at h h0 ⊢
  split at h
  · rename_i h2
    rw [if_pos h2, hb0, bt_pre hp (show i + 1 < p by omega), if_pos ⟨by omega, h2.2⟩]
  · rename_i h2
    rw [if_neg h2]
    rw [if_neg h2] at h0
    rw [if_neg, hb0]
    rintro ⟨k1, k2⟩
    rw [hb0, bt_pre hp (show i + 1 < p by omega)] at k2
    exact h2 ⟨by omega, k2⟩
theorem txt_pre {fr i : Nat} {out o : List UInt8} {e : Nat} (h : txt s fr i out = .ok (o, e)) (he : e < p) : txt (s.extract 0 p) fr i out = .ok (o, e) := by
  have hsz := size_ext (a := 0) hp
  fun_induction txt s fr i out with
  | case1 => cases h
  | case2 i out h1 h2 =>
    cases h
    rw [txt, if_neg (by omega), bt_pre hp he, if_pos h2]
  | case3 => cases h
  | case4 => cases h
  | case5 i out h1 h2 h3 h4 h5 hc ih =>
    have hgt := txt_gt h
    have hnc := nx_char hc
    have h5' : bt s (i + 1) = 34 ∨ bt s (i + 1) = 92 := by omega
    have hn1 : (nx s (i + 1)).2 = 1 := by rw [nx_ascii (by omega) (by omega)]
    have b0 := bt_pre hp (show i < p by omega)
    have b1 := bt_pre hp (show i + 1 < p by omega)
    rw [txt_back (by omega) (by rw [b0]; exact h3) (by rw [b1]; exact h5')]
    rw [hn1] at ih h
    rw [cut_pre hp (by omega)]
    exact ih h
  | case6 => cases h
  | case7 i out h1 h2 h3 hc ih =>
    have hgt := txt_gt h
    have hnc := nx_char hc
    have hnx := nx_pre hp (i := i) (by omega) (by omega)
    have b0 := bt_pre hp (show i < p by omega)
    rw [txt_step (by omega) (by rw [b0]; exact h2) (by rw [b0]; exact h3), hnx, if_pos hc, cut_pre hp (by omega)]
    exact ih h
  | case8 => cases h
theorem tok1_pre {i j : Nat} {t : Tk} (h : tok1 s i = .ok (t, j)) (hj : j ≤ p) (hi : i < p) : tok1 (s.extract 0 p) i = .ok (t, j) := by
  have b0 := bt_pre hp hi
  have hgt := tok1_gt (by omega) h
  unfold tok1 at h ⊢
  rw [b0]
  by_cases c1 : digitB (bt s i) = true
  · rw [if_pos c1] at h ⊢
    cases hn : numS (cut s i (runTo digitB s i)) with
    | none => rw [hn] at h; cases h
    | some n =>
      rw [hn] at h
      cases h
      rw [runTo_pre hp (by omega) hj, cut_pre hp hj, hn]
  rw [if_neg c1] at h ⊢
  by_cases c2 : letterB (bt s i) = true
  · rw [if_pos c2] at h ⊢
    cases h
    rw [runTo_pre hp (by omega) hj, ext_pre hp (runTo_ge _ _ _) hj]
  rw [if_neg c2] at h ⊢
  by_cases c3 : bt s i = 34
  · rw [if_pos c3] at h ⊢
    cases ht : txt s i (i + 1) [] with
    | error f => rw [ht] at h; cases h
    | ok oe =>
      obtain ⟨o, e⟩ := oe
      rw [ht] at h
      simp only at h
      by_cases h64 : 64 < o.length
      · rw [if_pos h64] at h; cases h
      · rw [if_neg h64] at h
        cases h
        rw [txt_pre hp ht (by omega)]
        simp only
        rw [if_neg h64]
  rw [if_neg c3] at h ⊢
  by_cases c4 : signL s i = 0
  · rw [if_pos c4] at h; cases h
  · rw [if_neg c4] at h
    cases h
    rw [signL_pre hp hj c4, if_neg c4, ext_pre hp (by omega) hj]
end
/-! the end -/
def Tk.back (p : Nat) (t : Tk) : Tk := { t with pos := t.pos - p }
section
variable {s : ByteArray} {p : Nat} (hp : p ≤ s.size)
include hp
theorem bt_suf {i : Nat} : bt (s.extract p s.size) i = bt s (p + i) := by
  by_cases h : p + i < s.size
  · exact bt_ext (Nat.le_refl _) h
  · rw [bt_out (by rw [size_ext (Nat.le_refl _)]; omega), bt_out (by omega)]
theorem nx_suf {i : Nat} : nx (s.extract p s.size) i = nx s (p + i) := by
  have hsz := size_ext (s := s) (a := p) (Nat.le_refl _)
  by_cases h : p + i < s.size
  · refine nx_congr (by omega) h (bt_suf hp) (fun _ => by rw [bt_suf hp]; rfl) (fun _ _ _ => by rw [bt_suf hp]; rfl) (fun _ _ _ _ => by rw [bt_suf hp]; rfl)
  · unfold nx
    rw [if_pos (by omega), if_pos (by omega)]
theorem cut_suf {i j : Nat} : cut (s.extract p s.size) i j = cut s (p + i) (p + j) := by
  unfold cut
  rw [show (s.extract p s.size).data.toList = s.data.toList.drop p by
    have := extract_bytes s p (s.size - p)
    rw [show p + (s.size - p) = s.size by omega] at this
    rw [this]
    exact List.take_of_length_le (by simp)]
  rw [List.drop_drop, show p + j - (p + i) = j - i by omega]
theorem ext_suf {i j : Nat} (h : i ≤ j) : (s.extract p s.size).extract i j = s.extract (p + i) (p + j) := by
  rw [extract_cut (s := s.extract p s.size) h, extract_cut (s := s) (i := p + i) (j := p + j) (by omega), cut_suf hp]
theorem runTo_suf {P : Nat → Bool} {i : Nat} : p + runTo P (s.extract p s.size) i = runTo P s (p + i) := by
  have hsz := size_ext (s := s) (a := p) (Nat.le_refl _)
  fun_induction runTo P (s.extract p s.size) i with
  | case1 i h ih =>
    rw [bt_suf hp] at h
    rw [ih, ← runTo_step (p := P) (s := s) (i := p + i) (by omega) h.2]
    rfl
  | case2 i h =>
    rw [bt_suf hp] at h
    exact (runTo_stop (fun hh => h ⟨by omega, hh.2⟩)).symm
theorem signL_suf {i : Nat} : signL (s.extract p s.size) i = signL s (p + i) := by
  have hsz := size_ext (s := s) (a := p) (Nat.le_refl _)
  unfold signL
  rw [bt_suf hp, bt_suf hp, ← Nat.add_assoc]
  have : i + 2 ≤ (s.extract p s.size).size ↔ p + i + 2 ≤ s.size := by omega
  simp only [this]
theorem txt_suf {fr i : Nat} {out o : List UInt8} {e : Nat} (h : txt s (p + fr) (p + i) out = .ok (o, e)) : ∃ e', e = p + e' ∧ txt (s.extract p s.size) fr i out = .ok (o, e') := by
  have hsz := size_ext (s := s) (a := p) (Nat.le_refl _)
  generalize hk : p + i = k at h
  generalize hf : p + fr = f at h
  fun_induction txt s f k out generalizing i with
  | case1 => cases h
  | case2 k out h1 h2 =>
    cases h
    subst hk
    refine ⟨i, rfl, ?_⟩
    rw [txt, if_neg (by omega), bt_suf hp, if_pos h2]
  | case3 => cases h
  | case4 => cases h
  | case5 k out h1 h2 h3 h4 h5 hc ih =>
    subst hk
    have h5' : bt s (p + i + 1) = 34 ∨ bt s (p + i + 1) = 92 := by omega
    have hn1 : (nx s (p + i + 1)).2 = 1 := by rw [nx_ascii (by omega) (by omega)]
    rw [hn1] at h ih
    rw [txt_back (by omega) (by rw [bt_suf hp]; exact h3) (by rw [bt_suf hp]; exact h5'), cut_suf hp]
    exact ih (i := i + 2) (by omega) h
  | case6 => cases h
  | case7 k out h1 h2 h3 hc ih =>
    subst hk
    have hnx := nx_suf hp (i := i)
    rw [txt_step (by omega) (by rw [bt_suf hp]; exact h2) (by rw [bt_suf hp]; exact h3), hnx, if_pos hc, cut_suf hp, ← Nat.add_assoc]
    exact ih (i := i + (nx s (p + i)).2) (by omega) h
  | case8 => cases h
theorem tok1_suf {i j : Nat} {t : Tk} (h : tok1 s (p + i) = .ok (t, j)) (hi : p + i < s.size) : ∃ j', j = p + j' ∧ tok1 (s.extract p s.size) i = .ok (t.back p, j') := by
  have hb := bt_suf hp (i := i)
  unfold tok1 at h ⊢
  rw [hb]
  by_cases c1 : digitB (bt s (p + i)) = true
  · rw [if_pos c1] at h ⊢
    rw [← runTo_suf hp, ← cut_suf hp] at h
    cases hn : numS (cut (s.extract p s.size) i (runTo digitB (s.extract p s.size) i)) with
    | none => rw [hn] at h; cases h
    | some n =>
      rw [hn] at h
      cases h
      refine ⟨_, rfl, ?_⟩
      simp only [Tk.back, Except.ok.injEq, Prod.mk.injEq, Tk.mk.injEq, true_and, and_true]
      omega
  rw [if_neg c1] at h ⊢
  by_cases c2 : letterB (bt s (p + i)) = true
  · rw [if_pos c2] at h ⊢
    rw [← runTo_suf hp, ← ext_suf hp (runTo_ge _ _ _)] at h
    cases h
    refine ⟨_, rfl, ?_⟩
    simp only [Tk.back, Except.ok.injEq, Prod.mk.injEq, Tk.mk.injEq, true_and, and_true]
    omega
  rw [if_neg c2] at h ⊢
  by_cases c3 : bt s (p + i) = 34
  · rw [if_pos c3] at h ⊢
    cases ht : txt s (p + i) (p + i + 1) [] with
    | error f => rw [ht] at h; cases h
    | ok oe =>
      obtain ⟨o, e⟩ := oe
      rw [ht] at h
      obtain ⟨e', rfl, ht'⟩ := txt_suf hp (fr := i) (i := i + 1) ht
      simp only at h
      by_cases h64 : 64 < o.length
      · rw [if_pos h64] at h; cases h
      · rw [if_neg h64] at h
        cases h
        refine ⟨e' + 1, by omega, ?_⟩
        rw [ht']
        simp only
        rw [if_neg h64]
        simp only [Tk.back, Except.ok.injEq, Prod.mk.injEq, Tk.mk.injEq, true_and, and_true]
        omega
  rw [if_neg c3] at h ⊢
  rw [signL_suf hp]
  by_cases c4 : signL s (p + i) = 0
  · rw [if_pos c4] at h; cases h
  · rw [if_neg c4] at h ⊢
    cases h
    refine ⟨i + signL s (p + i), by omega, ?_⟩
    rw [ext_suf hp (by omega), Nat.add_assoc]
    simp only [Tk.back, Except.ok.injEq, Prod.mk.injEq, Tk.mk.injEq, true_and, and_true]
    omega
end
end Vai
