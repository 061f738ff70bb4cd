import Derived.Test.YtlcbhhmnfmeoeaaDoorU9
set_option linter.unusedSimpArgs false
set_option linter.unusedVariables false
set_option linter.unusedSectionVars false
/-
  The tokens of a formula are good.
-/
namespace Vai
open Go
theorem chs_more {A B : List UInt8} {i : Nat} (hi : i ≤ A.length) (h : chs ⟨A.toArray⟩ i = true) : chs ⟨(A ++ B).toArray⟩ i = chs ⟨(A ++ B).toArray⟩ A.length := by
  have hsA := size_list A
  have hsAB := size_list (A ++ B)
  simp only [List.length_append] at hsAB
  fun_induction chs ⟨A.toArray⟩ i with
  | case1 i h1 =>
    have : i = A.length := by omega
    rw [this]
  | case2 i h1 h2 => cases h
  | case3 i h1 h2 ih =>
    have hle := nx_le (s := ⟨A.toArray⟩) (i := i) (by omega)
    simp only [not_or] at h2
    have hnx : nx ⟨(A ++ B).toArray⟩ i = nx ⟨A.toArray⟩ i := nx_part h2.1 (by omega) (by omega) fun k hk => by
      have hlt : i + k < A.length := by omega
      obtain ⟨b, _, e1, e2⟩ := bt_list_mem hlt
      rw [e1]
      exact bt_list (by rw [List.getElem?_append_left hlt]; exact e2)
    rw [chs_step (by omega), hnx, if_neg (by rintro (h | h); exact h2.1 h; exact h2.2 h)]
    exact ih (by omega) h
theorem chs_snoc {A : List UInt8} {s : ByteArray} {j : Nat} (h : chs ⟨A.toArray⟩ 0 = true) (hc : charB (nx s j).1 = true) : chs ⟨(A ++ cut s j (j + (nx s j).2)).toArray⟩ 0 = true := by
  have hnc := nx_char hc
  have hcl := cut_len (i := j) hnc.2
  have hsAB := size_list (A ++ cut s j (j + (nx s j).2))
  simp only [List.length_append, hcl] at hsAB
  rw [chs_more (Nat.zero_le _) h]
  have hnx : nx ⟨(A ++ cut s j (j + (nx s j).2)).toArray⟩ A.length = nx s j := nx_part (by omega) (by omega) (by omega) fun k hk => by
    obtain ⟨b, hb⟩ : ∃ b, (cut s j (j + (nx s j).2))[k]? = some b := ⟨(cut s j (j + (nx s j).2))[k]'(by omega), List.getElem?_eq_getElem (by omega)⟩
    rw [(cut_get hb).2]
    exact bt_list (by rw [List.getElem?_append_right (by omega), show A.length + k - A.length = k by omega]; exact hb)
  rw [chs_step (by omega), hnx, if_neg (by rw [hc]; simp; omega), chs_over (by omega)]
theorem txt_chs {s : ByteArray} {fr i : Nat} {out o : List UInt8} {e : Nat} (h : txt s fr i out = .ok (o, e)) (hc : chs ⟨out.toArray⟩ 0 = true) : chs ⟨o.toArray⟩ 0 = true := by
  fun_induction txt s fr i out with
  | case1 => cases h
  | case2 i out h1 h2 => cases h; exact hc
  | case3 => cases h
  | case4 => cases h
  | case5 i out h1 h2 h3 h4 h5 hc2 ih => exact ih h (chs_snoc hc hc2)
  | case6 => cases h
  | case7 i out h1 h2 h3 hc2 ih => exact ih h (chs_snoc hc hc2)
  | case8 => cases h
theorem ext_bytes {s : ByteArray} {i j : Nat} (h : i ≤ j) : (s.extract i j).data.toList = cut s i j := by rw [extract_cut h]
theorem tok1_good {s : ByteArray} {i j : Nat} {t : Tk} (hs : s.size ≤ 256) (hi : i < s.size) (h : tok1 s i = .ok (t, j)) : GoodT t := by
  obtain ⟨x, hx⟩ := drop_head hi
  obtain ⟨_, hb⟩ := bt_head hx
  unfold tok1 at h
  split at h
  · rename_i h1
    cases hn : numS (cut s i (runTo digitB s i)) with
    | none => rw [hn] at h; cases h
    | some n =>
      rw [hn] at h
      cases h
      unfold numS at hn
      split at hn
      · rename_i h2
        cases hn
        exact .inl ⟨rfl, rfl, _, rfl, h2.1⟩
      · cases hn
  split at h
  · rename_i h1
    have hw : wordB (bt s i) = true := by simp [wordB, h1]
    have hge := runTo_ge wordB s (i + 1)
    rw [runTo_step hi hw] at hge
    have hle := runTo_le (p := wordB) (s := s) (i := i) (by omega)
    have hall := cut_all (p := wordB) (s := s) (i := i)
    cases h
    refine .inr (.inr (.inl ⟨rfl, rfl, ?_, x, cut s (i + 1) (runTo wordB s i), ?_, by rw [← hb]; exact h1, fun b hbm => ?_⟩))
    · rw [size_ext hle]; omega
    · rw [ext_bytes (by omega)]
      obtain ⟨n, hn⟩ : ∃ n, runTo wordB s i = i + (n + 1) := ⟨runTo wordB s i - i - 1, by omega⟩
      rw [hn, cut_succ hx, show i + 1 + n = i + (n + 1) by omega]
    · apply hall
      obtain ⟨n, hn⟩ : ∃ n, runTo wordB s i = i + (n + 1) := ⟨runTo wordB s i - i - 1, by omega⟩
      rw [hn, cut_succ hx]
      rw [hn, show i + (n + 1) = i + 1 + n by omega] at hbm
      exact List.mem_cons_of_mem _ hbm
  split at h
  · rename_i h1
    cases ht : txt s i (i + 1) [] with
    | error f => rw [ht] at h; cases h
    | ok oe =>
      obtain ⟨o, e⟩ := oe
      rw [ht] at h
      simp only at h
      by_cases h64 : 64 < o.length
      · rw [if_pos h64] at h; cases h
      · rw [if_neg h64] at h
        cases h
        refine .inr (.inl ⟨rfl, rfl, txt_chs ht (chs_over (by rw [size_list]; exact Nat.le_refl _)), ?_⟩)
        rw [size_list]; omega
  split at h
  · cases h
  · rename_i h1
    cases h
    refine .inr (.inr (.inr ⟨rfl, rfl, ?_⟩))
    unfold signL at h1 ⊢
    split
    · rename_i h2
      obtain ⟨y, hy⟩ := drop_head (s := s) (i := i + 1) (by omega)
      obtain ⟨_, hby⟩ := bt_head hy
      refine .inl ⟨x, y, ?_, ?_⟩
      · simp only
        rw [ext_bytes (by omega), show i + 2 = i + (1 + 1) from rfl, cut_succ hx, cut_one' hy]
      · rw [← hb, ← hby]; exact h2.2
    · rename_i h2
      rw [if_neg h2] at h1
      split
      · rename_i h3
        refine .inr ⟨x, ?_, ?_⟩
        · simp only
          rw [ext_bytes (by omega), cut_one' hx]
        · rw [← hb]; exact h3
      · rename_i h3
        rw [if_neg h3] at h1
        exact absurd rfl h1
theorem toks_good {s : ByteArray} (hs : s.size ≤ 256) : ∀ (n : Nat) {i : Nat} {l : List Tk}, s.size - i ≤ n → i ≤ s.size → toks s i [] = .ok l → ∀ t ∈ l, GoodT t := by
  intro n
  induction n with
  | zero =>
    intro i l hn hi h
    rw [toks_over (by omega)] at h
    cases h
    intro t ht; cases ht
  | succ n ih =>
    intro i l hn hi h t ht
    have hge := runTo_ge blankB s i
    rcases toks_cons hi h with ⟨_, rfl⟩ | ⟨t', j, l', h1, h2, rfl, h3⟩
    · cases ht
    · have hgt := tok1_gt h1 h2
      rcases List.mem_cons.1 ht with rfl | ht
      · exact tok1_good hs h1 h2
      · exact ih (by omega) hgt.2 h3 t ht
theorem lexS_good (s : ByteArray) : ∀ t ∈ (lexS s).1, GoodT t := by
  unfold lexS
  split
  · intro t ht; cases ht
  split
  · intro t ht; cases ht
  cases h : toks s 0 [] with
  | error f => intro t ht; cases ht
  | ok l => exact toks_good (by omega) s.size (by omega) (Nat.zero_le _) h
/-- Tokens that are written with blanks between them are read as they were. -/
theorem lexS_cat {sep : List UInt8} (hne : sep ≠ []) (hsep : ∀ b ∈ sep, blankB b.toNat = true) {l : List Tk} (hg : ∀ t ∈ l, GoodT t) (hlen : (catT sep l).length ≤ 256) :
    ∃ l', lexS ⟨(catT sep l).toArray⟩ = (l', 0, 0) ∧ l'.length = l.length ∧ ∀ (k : Nat) (a b : Tk), l[k]? = some a → l'[k]? = some b → likeT a b := by
  obtain ⟨l', h1, h2, h3, h4⟩ := toks_cat hne hsep (q := ⟨(catT sep l).toArray⟩) l (p := 0) hg (Nat.zero_le _) (by simp)
  refine ⟨l', ?_, h2, h3⟩
  unfold lexS
  rw [if_neg (by rw [size_list]; omega), h4, if_neg (by decide), h1]
theorem lexS_big {s : ByteArray} (h : 256 < s.size) : lexS s = ([], 0, 3) := by unfold lexS; rw [if_pos h]
end Vai
