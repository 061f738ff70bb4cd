import Derived.Test.YtaldobgfbkllfaaGreatDoorVaiSa
set_option linter.unusedSimpArgs false
set_option linter.unusedVariables false
set_option linter.unusedSectionVars false
/-
  What a text behind backslashes means.
-/
namespace Vai
open Go
theorem chs_step {s : ByteArray} {i : Nat} (hi : i < s.size) : chs s i = if (nx s i).2 = 0 ∨ charB (nx s i).1 = false then false else chs s (i + (nx s i).2) := by
  rw [chs, if_neg (by omega)]
  split <;> rfl
theorem chs_over {s : ByteArray} {i : Nat} (hi : s.size ≤ i) : chs s i = true := by rw [chs, if_pos hi]
theorem bad_step {s : ByteArray} {i : Nat} (hi : i < s.size) : bad s i = if (nx s i).2 = 0 then (i : Int) else bad s (i + (nx s i).2) := by
  rw [bad, if_neg (by omega)]
theorem txt_step {s : ByteArray} {fr i : Nat} {out : List UInt8} (hi : i < s.size) (h34 : bt s i ≠ 34) (h92 : bt s i ≠ 92) : txt s fr i out = if charB (nx s i).1 = true then txt s fr (i + (nx s i).2) (out ++ cut s i (i + (nx s i).2)) else .error (i, 81) := by
  rw [txt, if_neg (by omega), if_neg h34, if_neg h92]
  split <;> rfl
theorem txt_back {s : ByteArray} {fr i : Nat} {out : List UInt8} (hi : i + 1 < s.size) (h92 : bt s i = 92) (h1 : bt s (i + 1) = 34 ∨ bt s (i + 1) = 92) : txt s fr i out = txt s fr (i + 2) (out ++ cut s (i + 1) (i + 2)) := by
  have hn : nx s (i + 1) = ((bt s (i + 1) : Int), 1) := nx_ascii (by omega) (by omega)
  have hc : charB (nx s (i + 1)).1 = true := by
    rw [hn]
    rcases h1 with h | h <;> rw [h] <;> decide
  rw [txt, if_neg (by omega), if_neg (by omega), if_pos h92, if_neg (by omega), if_neg (by omega), dif_pos hc, hn]
  rfl
theorem cut_one' {s : ByteArray} {i : Nat} {x : UInt8} {r : List UInt8} (h : s.data.toList.drop i = x :: r) : cut s i (i + 1) = [x] := by
  obtain ⟨_, h2⟩ := drop_cons h
  have := cut_succ (s := s) (i := i) (n := 0) (x := x) (by rw [h, h2])
  rw [this, cut_zero]
theorem bt_head {s : ByteArray} {i : Nat} {x : UInt8} {r : List UInt8} (h : s.data.toList.drop i = x :: r) : i < s.size ∧ bt s i = x.toNat := by
  obtain ⟨h1, _⟩ := drop_cons h
  rw [len_bytes] at h1
  exact ⟨h1, by rw [bt_drop, h]; rfl⟩
theorem drop_head {s : ByteArray} {i : Nat} (h : i < s.size) : ∃ x, s.data.toList.drop i = x :: s.data.toList.drop (i + 1) := by
  refine ⟨s.data.toList[i]'(by rw [len_bytes]; exact h), ?_⟩
  exact List.drop_eq_getElem_cons (by rw [len_bytes]; exact h)
theorem drop_cut {s : ByteArray} {i n : Nat} : s.data.toList.drop i = cut s i (i + n) ++ s.data.toList.drop (i + n) := by
  unfold cut
  rw [show i + n - i = n by omega, ← List.drop_drop]
  exact (List.take_append_drop n _).symm
theorem txt_esc {s q : ByteArray} {R : List UInt8} {fr : Nat} : ∀ (n i p : Nat) (out : List UInt8), s.size - i ≤ n → i ≤ s.size → Esc s q R i p →
    (chs s i = true → txt q fr p out = .ok (out ++ s.data.toList.drop i, q.size - R.length - 1) ∧ bad q p = bad q (q.size - R.length)) ∧ (chs s i = false → bad q p = -1 → ∃ a, txt q fr p out = .error (a, 81)) := by
  intro n
  induction n with
  | zero =>
    intro i p out hn hi h
    have hi' : i = s.size := by omega
    subst hi'
    refine ⟨fun _ => ?_, fun h => by rw [chs_over (Nat.le_refl _)] at h; cases h⟩
    have hnil : s.data.toList.drop s.size = [] := List.drop_of_length_le (by rw [len_bytes]; omega)
    unfold Esc at h
    rw [hnil] at h ⊢
    simp only [esc, List.flatMap_nil, List.nil_append] at h
    obtain ⟨h1, h2⟩ := bt_head h
    have hl := congrArg List.length h
    simp only [List.length_drop, len_bytes, List.length_cons] at hl
    have h34 : bt q p = 34 := h2
    refine ⟨?_, ?_⟩
    · rw [txt, if_neg (by omega), if_pos h34, List.append_nil]
      congr 2
      omega
    · rw [bad_step h1, nx_ascii h1 (by omega), if_neg (by simp)]
      congr 1
      simp only
      omega
  | succ n ih =>
    intro i p out hn hi h
    by_cases he : i = s.size
    · exact ih i p out (by omega) hi h
    have hi' : i < s.size := by omega
    obtain ⟨x, hX⟩ := drop_head hi'
    obtain ⟨_, hb⟩ := bt_head hX
    rw [chs_step hi']
    by_cases h128 : bt s i < 128
    · have hnx := nx_ascii hi' h128
      have h' := h
      unfold Esc at h'
      rw [hX, esc_cons] at h'
      rw [hnx]
      simp only [Nat.succ_ne_zero, false_or, show ((1 : Nat) = 0) = False from by simp]
      by_cases hx : x = 34 ∨ x = 92
      · rw [show escB x = [92, x] from if_pos hx] at h'
        simp only [List.cons_append, List.nil_append] at h'
        obtain ⟨hp1, hb1⟩ := bt_head h'
        obtain ⟨_, h2⟩ := drop_cons h'
        obtain ⟨hp2, hb2⟩ := bt_head h2
        obtain ⟨_, h3⟩ := drop_cons h2
        have hx' : x.toNat = 34 ∨ x.toNat = 92 := by
          rcases hx with rfl | rfl
          · exact .inl rfl
          · exact .inr rfl
        have hch : charB (bt s i : Int) = true := by rw [hb]; rcases hx' with h | h <;> rw [h] <;> decide
        rw [hch, if_neg (by simp)]
        have hE : Esc s q R (i + 1) (p + 2) := h3
        have hb1' : bt q p = 92 := hb1
        rw [txt_back hp2 hb1' (by rw [hb2]; exact hx'), cut_one' h2]
        obtain ⟨g1, g2⟩ := ih (i + 1) (p + 2) (out ++ [x]) (by omega) (by omega) hE
        have hbad : bad q p = bad q (p + 2) := by
          rw [bad_step hp1, nx_ascii hp1 (by omega), if_neg (by simp)]
          simp only
          rw [bad_step hp2, nx_ascii hp2 (by omega), if_neg (by simp)]
          rfl
        rw [hbad]
        refine ⟨fun hc => ?_, g2⟩
        obtain ⟨k1, k2⟩ := g1 hc
        refine ⟨?_, k2⟩
        rw [k1, hX]
        simp
      · rw [show escB x = [x] from if_neg hx] at h'
        simp only [List.cons_append, List.nil_append] at h'
        obtain ⟨hp1, hb1⟩ := bt_head h'
        obtain ⟨_, h2⟩ := drop_cons h'
        have hE : Esc s q R (i + 1) (p + 1) := h2
        have n34 : bt q p ≠ 34 := by
          rw [hb1]; intro h; exact hx (.inl (UInt8.toNat_inj.1 h))
        have n92 : bt q p ≠ 92 := by
          rw [hb1]; intro h; exact hx (.inr (UInt8.toNat_inj.1 h))
        have hq := nx_ascii hp1 (by omega)
        have hbb : bt q p = bt s i := by omega
        rw [txt_step hp1 n34 n92, hq, hbb]
        simp only
        have hbad : bad q p = bad q (p + 1) := by
          rw [bad_step hp1, hq, if_neg (by simp)]
        rw [hbad]
        by_cases hch : charB (bt s i : Int) = true
        · rw [if_pos hch, if_neg (by simp [hch]), cut_one' h']
          obtain ⟨g1, g2⟩ := ih (i + 1) (p + 1) (out ++ [x]) (by omega) (by omega) hE
          refine ⟨fun hc => ?_, g2⟩
          obtain ⟨k1, k2⟩ := g1 hc
          refine ⟨?_, k2⟩
          rw [k1, hX]
          simp
        · rw [if_neg hch, if_pos (by simpa using hch)]
          exact ⟨(fun h => by cases h), fun _ _ => ⟨_, rfl⟩⟩
    · obtain ⟨hp, hnx, hmore, hbb⟩ := h.high hi' (by omega)
      by_cases h0 : (nx s i).2 = 0
      · rw [if_pos (.inl h0)]
        refine ⟨(fun h => by cases h), fun _ hbad => ?_⟩
        rw [bad_step hp, hnx, if_pos h0] at hbad
        omega
      · obtain ⟨hE, hcut⟩ := hmore (by omega)
        have hle := nx_le hi'
        rw [txt_step hp (by omega) (by omega), hnx]
        have hbad : bad q p = bad q (p + (nx s i).2) := by rw [bad_step hp, hnx, if_neg h0]
        rw [hbad]
        by_cases hch : charB (nx s i).1 = true
        · rw [if_pos hch, if_neg (by simp [h0, hch]), ← hcut]
          obtain ⟨g1, g2⟩ := ih (i + (nx s i).2) (p + (nx s i).2) (out ++ cut s i (i + (nx s i).2)) (by omega) hle hE
          refine ⟨fun hc => ?_, g2⟩
          obtain ⟨k1, k2⟩ := g1 hc
          refine ⟨?_, k2⟩
          rw [k1, List.append_assoc, ← drop_cut]
        · rw [if_neg hch, if_pos (.inr (by simpa using hch))]
          exact ⟨(fun h => by cases h), fun _ _ => ⟨_, rfl⟩⟩
/-- A text alone. -/
theorem lexS_text {s q : ByteArray} (hq : q.data.toList = 34 :: (esc s.data.toList ++ [34])) (hs : s.size ≤ 100) :
    (chs s 0 = true ∧ s.size ≤ 64 ∧ lexS q = ([⟨2, s, 0, 0⟩], 0, 0)) ∨ (chs s 0 = true ∧ 64 < s.size ∧ lexS q = ([], 0, 3)) ∨ (chs s 0 = false ∧ ∃ a w, lexS q = ([], a, w) ∧ (w = 71 ∨ w = 81)) := by
  have hlen := congrArg List.length hq
  have hel := esc_len s.data.toList
  simp only [len_bytes, List.length_cons, List.length_append, List.length_nil] at hlen hel
  have hq0 : q.data.toList.drop 0 = 34 :: (esc s.data.toList ++ [34]) := by rw [List.drop_zero]; exact hq
  obtain ⟨hp, hb⟩ := bt_head hq0
  have hb34 : bt q 0 = 34 := hb
  obtain ⟨_, h1⟩ := drop_cons hq0
  have hE : Esc s q [] 0 1 := by unfold Esc; rw [List.drop_zero]; exact h1
  obtain ⟨g1, g2⟩ := txt_esc (fr := 0) s.size 0 1 [] (by omega) (by omega) hE
  have hbad : bad q 0 = bad q 1 := by rw [bad_step hp, nx_ascii hp (by omega), if_neg (by simp)]; rfl
  have hsize : (⟨s.data.toList.toArray⟩ : ByteArray) = s := by cases s; simp
  have htok : tok1 q 0 = match txt q 0 (0 + 1) [] with
      | .ok (out, e) => if 64 < out.length then .error (0, 3) else .ok (⟨2, ⟨out.toArray⟩, 0, (0 : Nat)⟩, e + 1)
      | .error f => .error f := by
    unfold tok1
    rw [hb34, if_neg (by decide), if_neg (by decide), if_pos rfl]
    rfl
  unfold lexS
  rw [if_neg (by omega)]
  cases hc : chs s 0 with
  | true =>
    obtain ⟨k1, k2⟩ := g1 hc
    have hbe : bad q (q.size - ([] : List UInt8).length) = -1 := by rw [bad, if_pos (by simp)]
    rw [hbad, k2, hbe, if_neg (by decide), toks_one hp (by rw [hb34]; decide), htok]
    rw [show 0 + 1 = 1 from rfl, k1]
    simp only [List.nil_append, List.drop_zero, len_bytes, List.length_nil, Nat.sub_zero]
    by_cases h64 : 64 < s.size
    · rw [if_pos h64]
      exact .inr (.inl ⟨trivial, h64, rfl⟩)
    · rw [if_neg h64]
      refine .inl ⟨trivial, by omega, ?_⟩
      simp only
      rw [toks_over (by omega), hsize]
      rfl
  | false =>
    refine .inr (.inr ⟨rfl, ?_⟩)
    by_cases hbd : 0 ≤ bad q 0
    · rw [if_pos hbd]
      exact ⟨_, _, rfl, .inl rfl⟩
    · rw [if_neg hbd, toks_one hp (by rw [hb34]; decide), htok]
      have hm1 : bad q 1 = -1 := by
        have hge : ∀ i, bad q i = -1 ∨ 0 ≤ bad q i := fun i => by
          fun_induction bad q i with
          | case1 => exact .inl rfl
          | case2 => exact .inr (by omega)
          | case3 _ _ _ ih => exact ih
        rcases hge 1 with h | h <;> omega
      obtain ⟨a, ha⟩ := g2 hc hm1
      rw [show 0 + 1 = 1 from rfl, ha]
      exact ⟨_, _, rfl, .inr rfl⟩
end Vai

/-
  A text's beginning and its end, and their tokens.
-/
namespace Vai
open Go
theorem size_ext {s : ByteArray} {a b : Nat} (h : b ≤ s.size) : (s.extract a b).size = b - a := by
  simp [ByteArray.size_extract]; omega
theorem bt_ext {s : ByteArray} {a b i : Nat} (hb : b ≤ s.size) (h : a + i < b) : bt (s.extract a b) i = bt s (a + i) := by
  unfold bt
  rw [ByteArray.data_extract, Array.getElem?_extract]
  have : i < min b s.data.size - a := by have : s.data.size = s.size := rfl; omega
  rw [if_pos this]
theorem bt_out {s : ByteArray} {i : Nat} (h : s.size ≤ i) : bt s i = 0 := by
  unfold bt
  rw [Array.getElem?_eq_none (by have : s.data.size = s.size := rfl; omega)]
theorem nx_need {s : ByteArray} {i : Nat} (h : (nx s i).2 ≠ 0) : (128 ≤ bt s i → 2 ≤ (nx s i).2) ∧ (224 ≤ bt s i → 3 ≤ (nx s i).2) ∧ (240 ≤ bt s i → 4 ≤ (nx s i).2) := by
  unfold nx at h ⊢
  by_cases c0 : s.size ≤ i
  · rw [if_pos c0] at h; exact absurd rfl h
  rw [if_neg c0] at h ⊢
  simp only at h ⊢
  by_cases c1 : bt s i < 128
  · rw [if_pos c1]; exact ⟨fun h => by omega, fun h => by omega, fun h => by omega⟩
  rw [if_neg c1] at h ⊢
  by_cases c2 : bt s i < 192
  · rw [if_pos c2] at h; exact absurd rfl h
  rw [if_neg c2] at h ⊢
  by_cases c3 : bt s i < 224
  · rw [if_pos c3] at h ⊢
    split
    · exact ⟨fun h => by omega, fun h => by omega, fun h => by omega⟩
    · rename_i hn; rw [if_neg hn] at h; exact absurd rfl h
  rw [if_neg c3] at h ⊢
  by_cases c4 : bt s i < 240
  · rw [if_pos c4] at h ⊢
    split
    · exact ⟨fun h => by omega, fun h => by omega, fun h => by omega⟩
    · rename_i hn; rw [if_neg hn] at h; exact absurd rfl h
  rw [if_neg c4] at h ⊢
  by_cases c5 : bt s i < 248
  · rw [if_pos c5] at h ⊢
    split
    · exact ⟨fun h => by simp, fun h => by simp, fun h => by simp⟩
    · rename_i hn; rw [if_neg hn] at h; exact absurd rfl h
  rw [if_neg c5] at h
  exact absurd rfl h
theorem runTo_stops {P : Nat → Bool} {s : ByteArray} {i : Nat} (hi : i ≤ s.size) : ¬ (runTo P s i < s.size ∧ P (bt s (runTo P s i)) = true) := by
  fun_induction runTo P s i with
  | case1 i h ih => exact ih (by omega)
  | case2 i h => exact h
section
variable {s : ByteArray} {p : Nat} (hp : p ≤ s.size)
include hp
theorem bt_pre {i : Nat} (h : i < p) : bt (s.extract 0 p) i = bt s i := by
  rw [bt_ext hp (by omega), Nat.zero_add]
theorem nx_pre {i : Nat} (h : i + (nx s i).2 ≤ p) (h0 : (nx s i).2 ≠ 0) : nx (s.extract 0 p) i = nx s i := by
  have hsz := size_ext (a := 0) hp
  obtain ⟨n2, n3, n4⟩ := nx_need h0
  have hi : i < p := by omega
  by_cases h128 : bt s i < 128
  · rw [nx_ascii (by omega) (by rw [bt_pre hp hi]; exact h128), nx_ascii (by omega) h128, bt_pre hp hi]
  have := n2 (by omega)
  refine (nx_congr (by omega) (by omega) (bt_pre hp hi).symm (fun _ => (bt_pre hp (by omega)).symm) (fun h224 _ _ => ?_) (fun h240 _ _ _ => ?_)).symm
  · have := n3 h224; exact (bt_pre hp (by omega)).symm
  · have := n4 h240; exact (bt_pre hp (by omega)).symm
theorem cut_pre {i j : Nat} (hj : j ≤ p) : cut (s.extract 0 p) i j = cut s i j := by
  unfold cut
  rw [show (s.extract 0 p).data.toList = s.data.toList.take p by have := extract_bytes s 0 p; rwa [Nat.zero_add, List.drop_zero] at this]
  rw [List.drop_take, List.take_take]
  congr 1
  omega
theorem ext_pre {i j : Nat} (hij : i ≤ j) (hj : j ≤ p) : (s.extract 0 p).extract i j = s.extract i j := by
  rw [extract_cut hij, extract_cut hij, cut_pre hp hj]
theorem runTo_pre {P : Nat → Bool} {i : Nat} (hi : i ≤ p) (h : runTo P s i ≤ p) : runTo P (s.extract 0 p) i = runTo P s i := by
  have hsz := size_ext (a := 0) hp
  have hge := runTo_ge P s i
  refine runTo_at hge (by omega) (fun k h1 h2 => ?_) (fun ⟨h1, h2⟩ => ?_)
  · rw [bt_pre hp (by omega)]; exact runTo_all k h1 h2
  · rw [bt_pre hp (by omega)] at h2
    exact runTo_stops (i := i) (by omega) ⟨by omega, h2⟩
theorem signL_pre {i : Nat} (h : i + signL s i ≤ p) (h0 : signL s i ≠ 0) : signL (s.extract 0 p) i = signL s i := by
  have hsz := size_ext (a := 0) hp
  have hb0 : bt (s.extract 0 p) i = bt s i := bt_pre hp (by omega)
  unfold signL at h h0 ⊢
  split at h
  · rename_i h2
    rw [if_pos h2, hb0, bt_pre hp (show i + 1 < p by omega), if_pos ⟨by omega, h2.2⟩]
  · rename_i h2
    rw [if_neg h2]
    rw [if_neg h2] at h0
    rw [if_neg, hb0]
    rintro ⟨k1, k2⟩
    rw [hb0, bt_pre hp (show i + 1 < p by omega)] at k2
    exact h2 ⟨by omega, k2⟩
theorem txt_pre {fr i : Nat} {out o : List UInt8} {e : Nat} (h : txt s fr i out = .ok (o, e)) (he : e < p) : txt (s.extract 0 p) fr i out = .ok (o, e) := by
  have hsz := size_ext (a := 0) hp
  fun_induction txt s fr i out with
  | case1 => cases h
  | case2 i out h1 h2 =>
    cases h
    rw [txt, if_neg (by omega), bt_pre hp he, if_pos h2]
  | case3 => cases h
  | case4 => cases h
  | case5 i out h1 h2 h3 h4 h5 hc ih =>
    have hgt := txt_gt h
    have hnc := nx_char hc
    have h5' : bt s (i + 1) = 34 ∨ bt s (i + 1) = 92 := by omega
    have hn1 : (nx s (i + 1)).2 = 1 := by rw [nx_ascii (by omega) (by omega)]
    have b0 := bt_pre hp (show i < p by omega)
    have b1 := bt_pre hp (show i + 1 < p by omega)
    rw [txt_back (by omega) (by rw [b0]; exact h3) (by rw [b1]; exact h5')]
    rw [hn1] at ih h
    rw [cut_pre hp (by omega)]
    exact ih h
  | case6 => cases h
  | case7 i out h1 h2 h3 hc ih =>
    have hgt := txt_gt h
    have hnc := nx_char hc
    have hnx := nx_pre hp (i := i) (by omega) (by omega)
    have b0 := bt_pre hp (show i < p by omega)
    rw [txt_step (by omega) (by rw [b0]; exact h2) (by rw [b0]; exact h3), hnx, if_pos hc, cut_pre hp (by omega)]
    exact ih h
  | case8 => cases h
theorem tok1_pre {i j : Nat} {t : Tk} (h : tok1 s i = .ok (t, j)) (hj : j ≤ p) (hi : i < p) : tok1 (s.extract 0 p) i = .ok (t, j) := by
  have b0 := bt_pre hp hi
  have hgt := tok1_gt (by omega) h
  unfold tok1 at h ⊢
  rw [b0]
  by_cases c1 : digitB (bt s i) = true
  · rw [if_pos c1] at h ⊢
    cases hn : numS (cut s i (runTo digitB s i)) with
    | none => rw [hn] at h; cases h
    | some n =>
      rw [hn] at h
      cases h
      rw [runTo_pre hp (by omega) hj, cut_pre hp hj, hn]
  rw [if_neg c1] at h ⊢
  by_cases c2 : letterB (bt s i) = true
  · rw [if_pos c2] at h ⊢
    cases h
    rw [runTo_pre hp (by omega) hj, ext_pre hp (runTo_ge _ _ _) hj]
  rw [if_neg c2] at h ⊢
  by_cases c3 : bt s i = 34
  · rw [if_pos c3] at h ⊢
    cases ht : txt s i (i + 1) [] with
    | error f => rw [ht] at h; cases h
    | ok oe =>
      obtain ⟨o, e⟩ := oe
      rw [ht] at h
      simp only at h
      by_cases h64 : 64 < o.length
      · rw [if_pos h64] at h; cases h
      · rw [if_neg h64] at h
        cases h
        rw [txt_pre hp ht (by omega)]
        simp only
        rw [if_neg h64]
  rw [if_neg c3] at h ⊢
  by_cases c4 : signL s i = 0
  · rw [if_pos c4] at h; cases h
  · rw [if_neg c4] at h
    cases h
    rw [signL_pre hp hj c4, if_neg c4, ext_pre hp (by omega) hj]
end
/-! the end -/
def Tk.back (p : Nat) (t : Tk) : Tk := { t with pos := t.pos - p }
section
variable {s : ByteArray} {p : Nat} (hp : p ≤ s.size)
include hp
theorem bt_suf {i : Nat} : bt (s.extract p s.size) i = bt s (p + i) := by
  by_cases h : p + i < s.size
  · exact bt_ext (Nat.le_refl _) h
  · rw [bt_out (by rw [size_ext (Nat.le_refl _)]; omega), bt_out (by omega)]
theorem nx_suf {i : Nat} : nx (s.extract p s.size) i = nx s (p + i) := by
  have hsz := size_ext (s := s) (a := p) (Nat.le_refl _)
  by_cases h : p + i < s.size
  · refine nx_congr (by omega) h (bt_suf hp) (fun _ => by rw [bt_suf hp]; rfl) (fun _ _ _ => by rw [bt_suf hp]; rfl) (fun _ _ _ _ => by rw [bt_suf hp]; rfl)
  · unfold nx
    rw [if_pos (by omega), if_pos (by omega)]
theorem cut_suf {i j : Nat} : cut (s.extract p s.size) i j = cut s (p + i) (p + j) := by
  unfold cut
  rw [show (s.extract p s.size).data.toList = s.data.toList.drop p by
    have := extract_bytes s p (s.size - p)
    rw [show p + (s.size - p) = s.size by omega] at this
    rw [this]
    exact List.take_of_length_le (by simp)]
  rw [List.drop_drop, show p + j - (p + i) = j - i by omega]
theorem ext_suf {i j : Nat} (h : i ≤ j) : (s.extract p s.size).extract i j = s.extract (p + i) (p + j) := by
  rw [extract_cut (s := s.extract p s.size) h, extract_cut (s := s) (i := p + i) (j := p + j) (by omega), cut_suf hp]
theorem runTo_suf {P : Nat → Bool} {i : Nat} : p + runTo P (s.extract p s.size) i = runTo P s (p + i) := by
  have hsz := size_ext (s := s) (a := p) (Nat.le_refl _)
  fun_induction runTo P (s.extract p s.size) i with
  | case1 i h ih =>
    rw [bt_suf hp] at h
    rw [ih, ← runTo_step (p := P) (s := s) (i := p + i) (by omega) h.2]
    rfl
  | case2 i h =>
    rw [bt_suf hp] at h
    exact (runTo_stop (fun hh => h ⟨by omega, hh.2⟩)).symm
theorem signL_suf {i : Nat} : signL (s.extract p s.size) i = signL s (p + i) := by
  have hsz := size_ext (s := s) (a := p) (Nat.le_refl _)
  unfold signL
  rw [bt_suf hp, bt_suf hp, ← Nat.add_assoc]
  have : i + 2 ≤ (s.extract p s.size).size ↔ p + i + 2 ≤ s.size := by omega
  simp only [this]
theorem txt_suf {fr i : Nat} {out o : List UInt8} {e : Nat} (h : txt s (p + fr) (p + i) out = .ok (o, e)) : ∃ e', e = p + e' ∧ txt (s.extract p s.size) fr i out = .ok (o, e') := by
  have hsz := size_ext (s := s) (a := p) (Nat.le_refl _)
  generalize hk : p + i = k at h
  generalize hf : p + fr = f at h
  fun_induction txt s f k out generalizing i with
  | case1 => cases h
  | case2 k out h1 h2 =>
    cases h
    subst hk
    refine ⟨i, rfl, ?_⟩
    rw [txt, if_neg (by omega), bt_suf hp, if_pos h2]
  | case3 => cases h
  | case4 => cases h
  | case5 k out h1 h2 h3 h4 h5 hc ih =>
    subst hk
    have h5' : bt s (p + i + 1) = 34 ∨ bt s (p + i + 1) = 92 := by omega
    have hn1 : (nx s (p + i + 1)).2 = 1 := by rw [nx_ascii (by omega) (by omega)]
    rw [hn1] at h ih
    rw [txt_back (by omega) (by rw [bt_suf hp]; exact h3) (by rw [bt_suf hp]; exact h5'), cut_suf hp]
    exact ih (i := i + 2) (by omega) h
  | case6 => cases h
  | case7 k out h1 h2 h3 hc ih =>
    subst hk
    have hnx := nx_suf hp (i := i)
    rw [txt_step (by omega) (by rw [bt_suf hp]; exact h2) (by rw [bt_suf hp]; exact h3), hnx, if_pos hc, cut_suf hp, ← Nat.add_assoc]
    exact ih (i := i + (nx s (p + i)).2) (by omega) h
  | case8 => cases h
theorem tok1_suf {i j : Nat} {t : Tk} (h : tok1 s (p + i) = .ok (t, j)) (hi : p + i < s.size) : ∃ j', j = p + j' ∧ tok1 (s.extract p s.size) i = .ok (t.back p, j') := by
  have hb := bt_suf hp (i := i)
  unfold tok1 at h ⊢
  rw [hb]
  by_cases c1 : digitB (bt s (p + i)) = true
  · rw [if_pos c1] at h ⊢
    rw [← runTo_suf hp, ← cut_suf hp] at h
    cases hn : numS (cut (s.extract p s.size) i (runTo digitB (s.extract p s.size) i)) with
    | none => rw [hn] at h; cases h
    | some n =>
      rw [hn] at h
      cases h
      refine ⟨_, rfl, ?_⟩
      simp only [Tk.back, Except.ok.injEq, Prod.mk.injEq, Tk.mk.injEq, true_and, and_true]
      omega
  rw [if_neg c1] at h ⊢
  by_cases c2 : letterB (bt s (p + i)) = true
  · rw [if_pos c2] at h ⊢
    rw [← runTo_suf hp, ← ext_suf hp (runTo_ge _ _ _)] at h
    cases h
    refine ⟨_, rfl, ?_⟩
    simp only [Tk.back, Except.ok.injEq, Prod.mk.injEq, Tk.mk.injEq, true_and, and_true]
    omega
  rw [if_neg c2] at h ⊢
  by_cases c3 : bt s (p + i) = 34
  · rw [if_pos c3] at h ⊢
    cases ht : txt s (p + i) (p + i + 1) [] with
    | error f => rw [ht] at h; cases h
    | ok oe =>
      obtain ⟨o, e⟩ := oe
      rw [ht] at h
      obtain ⟨e', rfl, ht'⟩ := txt_suf hp (fr := i) (i := i + 1) ht
      simp only at h
      by_cases h64 : 64 < o.length
      · rw [if_pos h64] at h; cases h
      · rw [if_neg h64] at h
        cases h
        refine ⟨e' + 1, by omega, ?_⟩
        rw [ht']
        simp only
        rw [if_neg h64]
        simp only [Tk.back, Except.ok.injEq, Prod.mk.injEq, Tk.mk.injEq, true_and, and_true]
        omega
  rw [if_neg c3] at h ⊢
  rw [signL_suf hp]
  by_cases c4 : signL s (p + i) = 0
  · rw [if_pos c4] at h; cases h
  · rw [if_neg c4] at h ⊢
    cases h
    refine ⟨i + signL s (p + i), by omega, ?_⟩
    rw [ext_suf hp (by omega), Nat.add_assoc]
    simp only [Tk.back, Except.ok.injEq, Prod.mk.injEq, Tk.mk.injEq, true_and, and_true]
    omega
end
end Vai

/-
  A text that is cut ahead of a token.
-/
namespace Vai
open Go
theorem bad_ge' (s : ByteArray) (i : Nat) : bad s i = -1 ∨ (i : Int) ≤ bad s i := by
  fun_induction bad s i with
  | case1 => exact .inl rfl
  | case2 => exact .inr (by omega)
  | case3 i h1 h2 ih => omega
theorem bad_split {s : ByteArray} {p : Nat} (hp : p < s.size) (h128 : bt s p < 128) {i : Nat} (hi : i ≤ p) (hb : bad s i = -1) : bad s p = -1 ∧ bad (s.extract 0 p) i = -1 := by
  have hsz := size_ext (s := s) (a := 0) (Nat.le_of_lt hp)
  fun_induction bad s i with
  | case1 => omega
  | case2 => omega
  | case3 i h1 h2 ih =>
    by_cases hip : i = p
    · subst hip
      refine ⟨by rw [bad_step (by omega), if_neg h2]; exact hb, by rw [bad, if_pos (by omega)]⟩
    · have hle : i + (nx s i).2 ≤ p := by
        apply Classical.byContradiction
        intro hn
        have := (nx_conts (s := s) (i := i)).2 (p - i) (by omega) (by omega)
        rw [show i + (p - i) = p by omega] at this
        have := cont_ge this
        omega
      have hnx := nx_pre (Nat.le_of_lt hp) hle h2
      obtain ⟨k1, k2⟩ := ih hle hb
      refine ⟨k1, ?_⟩
      rw [bad_step (by omega), hnx, if_neg h2]
      exact k2
theorem bad_suf {s : ByteArray} {p : Nat} (hp : p ≤ s.size) {i : Nat} (hb : bad s (p + i) = -1) : bad (s.extract p s.size) i = -1 := by
  have hsz := size_ext (s := s) (a := p) (Nat.le_refl _)
  generalize hk : p + i = k at hb
  fun_induction bad s k generalizing i with
  | case1 k h => rw [bad, if_pos (by omega)]
  | case2 => omega
  | case3 k h1 h2 ih =>
    subst hk
    rw [bad_step (by omega), nx_suf hp, if_neg h2]
    exact ih (by omega) hb
theorem tok1_pos {s : ByteArray} {i j : Nat} {t : Tk} (h : tok1 s i = .ok (t, j)) : t.pos = i ∧ bt s i < 128 := by
  unfold tok1 at h
  split at h
  · rename_i h1
    simp only [digitB, decide_eq_true_eq] at h1
    split at h
    · cases h; exact ⟨rfl, by omega⟩
    · cases h
  split at h
  · rename_i h1
    simp only [letterB, decide_eq_true_eq] at h1
    cases h; exact ⟨rfl, by omega⟩
  split at h
  · split at h
    · split at h
      · cases h
      · cases h; exact ⟨rfl, by omega⟩
    · cases h
  split at h
  · cases h
  · rename_i h1
    cases h
    refine ⟨rfl, ?_⟩
    unfold signL at h1
    split at h1
    · rename_i h2; omega
    · split at h1
      · omega
      · exact absurd rfl h1
theorem toks_acc {s : ByteArray} {i : Nat} {acc acc' m : List Tk} (h : toks s i (acc ++ acc') = .ok m) : ∃ l, m = acc ++ l ∧ toks s i acc' = .ok l := by
  generalize ha : acc ++ acc' = A at h
  fun_induction toks s i A generalizing acc' with
  | case1 i A h1 =>
    cases h
    subst ha
    exact ⟨acc', rfl, by rw [toks, if_pos h1]⟩
  | case2 => cases h
  | case3 i A h1 t j ht h2 ih =>
    subst ha
    obtain ⟨l, h3, h4⟩ := ih (acc' := acc' ++ [t]) (by simp) h
    refine ⟨l, h3, ?_⟩
    rw [toks, if_neg h1, ht]
    simp only
    rw [dif_pos h2]
    exact h4
  | case4 i A h1 t j ht h2 =>
    cases h
    subst ha
    refine ⟨acc', rfl, ?_⟩
    rw [toks, if_neg h1, ht]
    simp only
    rw [dif_neg h2]
theorem toks_more {s : ByteArray} {acc : List Tk} {i : Nat} {A : List Tk} : ∀ {l}, toks s i A = .ok l → toks s i (acc ++ A) = .ok (acc ++ l) := by
  fun_induction toks s i A with
  | case1 i A h1 => intro l h; cases h; rw [toks, if_pos h1]
  | case2 => intro l h; cases h
  | case3 i A h1 t j ht h2 ih =>
    intro l h
    rw [toks, if_neg h1, ht]
    simp only
    rw [dif_pos h2, List.append_assoc]
    exact ih h
  | case4 i A h1 t j ht h2 =>
    intro l h
    cases h
    rw [toks, if_neg h1, ht]
    simp only
    rw [dif_neg h2]
theorem toks_acc' {s : ByteArray} {i : Nat} {acc l : List Tk} (h : toks s i [] = .ok l) : toks s i acc = .ok (acc ++ l) := by
  have := toks_more (acc := acc) h
  simpa using this
/-- The first token, and the others. -/
theorem toks_cons {s : ByteArray} {i : Nat} {l : List Tk} (hi : i ≤ s.size) (h : toks s i [] = .ok l) : (s.size ≤ runTo blankB s i ∧ l = []) ∨ ∃ t j l', runTo blankB s i < s.size ∧ tok1 s (runTo blankB s i) = .ok (t, j) ∧ l = t :: l' ∧ toks s j [] = .ok l' := by
  have hge := runTo_ge blankB s i
  rw [toks] at h
  by_cases h1 : s.size ≤ runTo blankB s i
  · rw [if_pos h1] at h
    cases h
    exact .inl ⟨h1, rfl⟩
  · rw [if_neg h1] at h
    cases ht : tok1 s (runTo blankB s i) with
    | error f => rw [ht] at h; cases h
    | ok tj =>
      obtain ⟨t, j⟩ := tj
      rw [ht] at h
      have hgt := tok1_gt (by omega) ht
      simp only at h
      rw [dif_pos ⟨by omega, by omega⟩] at h
      obtain ⟨l', h3, h4⟩ := toks_acc (acc := [t]) (acc' := []) (by simpa using h)
      exact .inr ⟨t, j, l', by omega, rfl, by simpa using h3, h4⟩
theorem toks_mk {s : ByteArray} {i j : Nat} {t : Tk} {l : List Tk} (h1 : runTo blankB s i < s.size) (ht : tok1 s (runTo blankB s i) = .ok (t, j)) (h : toks s j [] = .ok l) : toks s i [] = .ok (t :: l) := by
  have hge := runTo_ge blankB s i
  have hgt := tok1_gt (by omega) ht
  rw [toks, if_neg (by omega), ht]
  simp only
  rw [dif_pos ⟨by omega, by omega⟩, List.nil_append]
  have := toks_acc' (acc := [t]) h
  simpa using this
theorem toks_split {s : ByteArray} : ∀ (k : Nat) {i : Nat} {l : List Tk}, i ≤ s.size → toks s i [] = .ok l → ∀ t, l[k]? = some t → ∃ p : Nat, t.pos = p ∧ i ≤ p ∧ p < s.size ∧ bt s p < 128 ∧ toks (s.extract 0 p) i [] = .ok (l.take k) ∧ toks s p [] = .ok (l.drop k) := by
  intro k
  induction k with
  | zero =>
    intro i l hi h t ht
    rcases toks_cons hi h with ⟨_, rfl⟩ | ⟨t', j, l', h1, h2, rfl, h3⟩
    · simp at ht
    · simp only [List.getElem?_cons_zero, Option.some.injEq] at ht
      subst ht
      obtain ⟨hp, hb⟩ := tok1_pos h2
      have hge := runTo_ge blankB s i
      have hsz := size_ext (s := s) (a := 0) (Nat.le_of_lt h1)
      refine ⟨_, hp, hge, h1, hb, ?_, ?_⟩
      · rw [toks, if_pos (by rw [runTo_pre (Nat.le_of_lt h1) hge (Nat.le_refl _)]; omega)]
        rfl
      · rw [List.drop_zero]
        have hr : runTo blankB s (runTo blankB s i) = runTo blankB s i := runTo_stop (runTo_stops hi)
        exact toks_mk (by rw [hr]; exact h1) (by rw [hr]; exact h2) h3
  | succ k ih =>
    intro i l hi h t ht
    rcases toks_cons hi h with ⟨_, rfl⟩ | ⟨t', j, l', h1, h2, rfl, h3⟩
    · simp at ht
    · simp only [List.getElem?_cons_succ] at ht
      have hgt := tok1_gt h1 h2
      obtain ⟨p, e1, e2, e3, e4, e5, e6⟩ := ih hgt.2 h3 t ht
      have hge := runTo_ge blankB s i
      have hsz := size_ext (s := s) (a := 0) (Nat.le_of_lt e3)
      refine ⟨p, e1, by omega, e3, e4, ?_, by rw [List.drop_succ_cons]; exact e6⟩
      have hr : runTo blankB (s.extract 0 p) i = runTo blankB s i := runTo_pre (Nat.le_of_lt e3) (by omega) (by omega)
      rw [List.take_succ_cons]
      exact toks_mk (by rw [hr]; omega) (by rw [hr]; exact tok1_pre (Nat.le_of_lt e3) h2 e2 (by omega)) e5
theorem toks_suf {s : ByteArray} {p : Nat} (hp : p ≤ s.size) : ∀ (n : Nat) {i : Nat} {l : List Tk}, s.size - (p + i) ≤ n → p + i ≤ s.size → toks s (p + i) [] = .ok l → toks (s.extract p s.size) i [] = .ok (l.map (Tk.back p)) := by
  have hsz := size_ext (s := s) (a := p) (Nat.le_refl _)
  intro n
  induction n with
  | zero =>
    intro i l hn hi h
    rw [toks_over (by omega)] at h
    cases h
    rw [toks_over (by omega)]
    rfl
  | succ n ih =>
    intro i l hn hi h
    have hr := runTo_suf hp (P := blankB) (i := i)
    have hge := runTo_ge blankB (s.extract p s.size) i
    rcases toks_cons hi h with ⟨h1, rfl⟩ | ⟨t, j, l', h1, h2, rfl, h3⟩
    · rw [toks, if_pos (by omega)]
      rfl
    · rw [← hr] at h1 h2
      have hgt := tok1_gt h1 h2
      obtain ⟨j', rfl, ht⟩ := tok1_suf hp h2 h1
      have := ih (by omega) hgt.2 h3
      exact toks_mk (by omega) ht this
/-- A formula is cut ahead of a token. -/
theorem lexS_split {s : ByteArray} {l : List Tk} {a : Int} (h : lexS s = (l, a, 0)) {k : Nat} {t : Tk} (ht : l[k]? = some t) : ∃ p : Nat, t.pos = p ∧ p < s.size ∧ s.size ≤ 256 ∧ lexS (s.extract 0 p) = (l.take k, 0, 0) ∧ lexS (s.extract p s.size) = ((l.drop k).map (Tk.back p), 0, 0) := by
  unfold lexS at h
  by_cases h1 : 256 < s.size
  · rw [if_pos h1] at h
    simp at h
  rw [if_neg h1] at h
  by_cases h2 : 0 ≤ bad s 0
  · rw [if_pos h2] at h
    simp at h
  rw [if_neg h2] at h
  cases hk : toks s 0 [] with
  | error f =>
    obtain ⟨b, w⟩ := f
    rw [hk] at h
    simp only [Prod.mk.injEq] at h
    obtain ⟨rfl, _, _⟩ := h
    simp at ht
  | ok l' =>
    rw [hk] at h
    simp only [Prod.mk.injEq] at h
    obtain ⟨rfl, _, _⟩ := h
    obtain ⟨p, e1, e2, e3, e4, e5, e6⟩ := toks_split k (Nat.zero_le _) hk t ht
    have hbd : bad s 0 = -1 := by rcases bad_ge' s 0 with h | h <;> omega
    obtain ⟨b1, b2⟩ := bad_split e3 e4 (Nat.zero_le _) hbd
    have b3 := bad_suf (i := 0) (Nat.le_of_lt e3) b1
    have hs1 := size_ext (s := s) (a := 0) (Nat.le_of_lt e3)
    have hs2 := size_ext (s := s) (a := p) (Nat.le_refl _)
    have e7 := toks_suf (Nat.le_of_lt e3) s.size (i := 0) (by omega) (by omega) e6
    refine ⟨p, e1, e3, by omega, ?_, ?_⟩
    · unfold lexS
      rw [if_neg (by omega), b2, if_neg (by decide), e5]
    · unfold lexS
      rw [if_neg (by omega), b3, if_neg (by decide), e7]
end Vai

/-
  Tokens that are written with blanks between them.
-/
namespace Vai
open Go
theorem nx_part {s q : ByteArray} {i p : Nat} (h0 : (nx s i).2 ≠ 0) (hi : i < s.size) (hp : p < q.size) (hb : ∀ k, k < (nx s i).2 → bt q (p + k) = bt s (i + k)) : nx q p = nx s i := by
  obtain ⟨n2, n3, n4⟩ := nx_need h0
  have b0 := hb 0 (by omega)
  simp only [Nat.add_zero] at b0
  by_cases h128 : bt s i < 128
  · rw [nx_ascii hp (by omega), nx_ascii hi h128, b0]
  have := n2 (by omega)
  refine (nx_congr hi hp b0.symm (fun _ => (hb 1 (by omega)).symm) (fun h224 _ _ => ?_) (fun h240 _ _ _ => ?_)).symm
  · have := n3 h224; exact (hb 2 (by omega)).symm
  · have := n4 h240; exact (hb 3 (by omega)).symm
theorem bt_at {q : ByteArray} {p k : Nat} {L : List UInt8} (h : q.data.toList.drop p = L) : bt q (p + k) = (L.getD k 0).toNat := by
  rw [bt_drop, ← List.drop_drop, h, List.getD_eq_getElem?_getD, List.getElem?_drop, Nat.add_zero, List.getD_eq_getElem?_getD]
theorem bt_mem {q : ByteArray} {p k : Nat} {X Y : List UInt8} (h : q.data.toList.drop p = X ++ Y) (hk : k < X.length) : ∃ b ∈ X, bt q (p + k) = b.toNat := by
  refine ⟨X[k], List.getElem_mem hk, ?_⟩
  rw [bt_at h, List.getD_eq_getElem?_getD, List.getElem?_append_left hk, List.getElem?_eq_getElem hk]
  rfl
theorem cut_at {q : ByteArray} {p : Nat} {X Y : List UInt8} (h : q.data.toList.drop p = X ++ Y) : cut q p (p + X.length) = X := by
  unfold cut
  rw [h, show p + X.length - p = X.length by omega, List.take_left]
theorem size_at {q : ByteArray} {p : Nat} {L : List UInt8} (h : q.data.toList.drop p = L) (hne : L ≠ []) : p + L.length = q.size := by
  have := congrArg List.length h
  simp only [List.length_drop, len_bytes] at this
  have hl := List.length_pos_iff.2 hne
  omega
theorem drop_at {q : ByteArray} {p : Nat} {X Y : List UInt8} (h : q.data.toList.drop p = X ++ Y) : q.data.toList.drop (p + X.length) = Y := by
  rw [← List.drop_drop, h, List.drop_left]
theorem bad_asc {q : ByteArray} : ∀ (n p : Nat), p + n ≤ q.size → (∀ k, k < n → bt q (p + k) < 128) → bad q p = bad q (p + n)
  | 0, p, _, _ => rfl
  | n + 1, p, hn, h => by
    have h0 : bt q p < 128 := h 0 (by omega)
    rw [bad_step (by omega), nx_ascii (by omega) h0, if_neg (by simp)]
    have := bad_asc (q := q) n (p + 1) (by omega) fun k hk => by have := h (k + 1) (by omega); rwa [show p + 1 + k = p + (k + 1) by omega]
    rw [show p + (n + 1) = p + 1 + n by omega]
    exact this
/-- What a token is. -/
def GoodT (t : Tk) : Prop := (t.kind = 1 ∧ t.text = noText ∧ ∃ n : Nat, t.n = n ∧ n < 9223372036854775808) ∨ (t.kind = 2 ∧ t.n = 0 ∧ chs t.text 0 = true ∧ t.text.size ≤ 64) ∨
  (t.kind = 3 ∧ t.n = 0 ∧ t.text.size ≤ 256 ∧ ∃ x l, t.text.data.toList = x :: l ∧ letterB x.toNat = true ∧ ∀ b ∈ l, wordB b.toNat = true) ∨
  (t.kind = 4 ∧ t.n = 0 ∧ ((∃ x y, t.text.data.toList = [x, y] ∧ ((x.toNat = 61 ∧ y.toNat = 61) ∨ (x.toNat = 33 ∧ y.toNat = 61) ∨ (x.toNat = 60 ∧ y.toNat = 61) ∨ (x.toNat = 62 ∧ y.toNat = 61) ∨ (x.toNat = 38 ∧ y.toNat = 38) ∨ (x.toNat = 124 ∧ y.toNat = 124))) ∨
    ∃ x, t.text.data.toList = [x] ∧ (x.toNat = 43 ∨ x.toNat = 45 ∨ x.toNat = 42 ∨ x.toNat = 47 ∨ x.toNat = 37 ∨ x.toNat = 40 ∨ x.toNat = 41 ∨ x.toNat = 63 ∨ x.toNat = 58 ∨ x.toNat = 33 ∨ x.toNat = 60 ∨ x.toNat = 62)))
/-- How a token is written. -/
def wr (t : Tk) : List UInt8 := if t.kind = 1 then decL t.n else if t.kind = 2 then 34 :: (esc t.text.data.toList ++ [34]) else t.text.data.toList
def catT (sep : List UInt8) (l : List Tk) : List UInt8 := l.flatMap fun t => wr t ++ sep
def likeT (a b : Tk) : Prop := a.kind = b.kind ∧ a.text = b.text ∧ a.n = b.n
theorem blank_asc {b : Nat} (h : blankB b = true) : b < 128 ∧ digitB b = false ∧ wordB b = false ∧ b ≠ 61 ∧ b ≠ 38 ∧ b ≠ 124 := by
  simp only [blankB, decide_eq_true_eq] at h
  rcases h with rfl | rfl | rfl | rfl <;> decide
theorem ba_self' (s : ByteArray) : (⟨s.data.toList.toArray⟩ : ByteArray) = s := by cases s; simp
/-- One token is read. -/
theorem tok1_wr {q : ByteArray} {p : Nat} {t : Tk} {b0 : UInt8} {R : List UInt8} (hb : blankB b0.toNat = true) (hg : GoodT t) (h : q.data.toList.drop p = wr t ++ b0 :: R) :
    ∃ t', tok1 q p = .ok (t', p + (wr t).length) ∧ likeT t t' ∧ blankB (bt q p) = false ∧ bad q p = bad q (p + (wr t).length) ∧ p < q.size := by
  obtain ⟨hbl1, hbl2, hbl3, hbl4, hbl5, hbl6⟩ := blank_asc hb
  have hsz := size_at h (by simp)
  simp only [List.length_append, List.length_cons] at hsz
  have hnext : bt q (p + (wr t).length) = b0.toNat := by
    rw [bt_at h, List.getD_eq_getElem?_getD, List.getElem?_append_right (Nat.le_refl _)]
    simp
  have hcut := cut_at h
  rcases hg with ⟨k1, k2, n, k3, k4⟩ | ⟨k1, k2, k3, k4⟩ | ⟨k1, k2, k3, x, l, k4, k5, k6⟩ | ⟨k1, k2, k3⟩
  · have hw : wr t = dig n := by
      unfold wr decL
      rw [if_pos k1, k3, if_neg (by omega)]
      rfl
    rw [hw] at h hsz hnext hcut ⊢
    have hpos : 0 < (dig n).length := List.length_pos_iff.2 (dig_ne n)
    have hd : ∀ k, k < (dig n).length → digitB (bt q (p + k)) = true := fun k hk => by
      obtain ⟨b, hb1, hb2⟩ := bt_mem h hk
      rw [hb2]; exact dig_all n b hb1
    have hd0 : digitB (bt q p) = true := hd 0 hpos
    have hrun : runTo digitB q p = p + (dig n).length := runTo_at (by omega) (by omega) (fun k h1 h2 => by have := hd (k - p) (by omega); rwa [show p + (k - p) = k by omega] at this) (fun hh => by rw [hnext, hbl2] at hh; cases hh.2)
    refine ⟨⟨1, noText, n, p⟩, ?_, ⟨k1, k2, k3⟩, (digit_not hd0).1, bad_asc _ _ (by omega) fun k hk => (digit_not (hd k hk)).2, by omega⟩
    unfold tok1
    rw [if_pos hd0, hrun, hcut, numS_dig k4]
  · have hw : wr t = 34 :: (esc t.text.data.toList ++ [34]) := by
      unfold wr
      rw [if_neg (by omega), if_pos k1]
    have h' := h
    rw [hw] at h hsz hnext hcut ⊢
    simp only [List.cons_append] at h
    obtain ⟨hp, hb34⟩ := bt_head h
    have hb34 : bt q p = 34 := hb34
    obtain ⟨_, h1⟩ := drop_cons h
    have hE : Esc t.text q (b0 :: R) 0 (p + 1) := by
      unfold Esc
      rw [List.drop_zero, h1, List.append_assoc]
      rfl
    obtain ⟨g1, _⟩ := txt_esc (fr := p) t.text.size 0 (p + 1) [] (by omega) (by omega) hE
    obtain ⟨g1, g2⟩ := g1 k3
    rw [List.nil_append, List.drop_zero] at g1
    simp only [List.length_cons, List.length_append, List.length_nil] at hsz g1 g2 ⊢
    have e : q.size - (R.length + 1) = p + ((esc t.text.data.toList).length + (0 + 1) + 1) := by omega
    refine ⟨⟨2, t.text, 0, p⟩, ?_, ⟨k1, rfl, k2⟩, by rw [hb34]; decide, ?_, hp⟩
    · unfold tok1
      rw [hb34, if_neg (by decide), if_neg (by decide), if_pos rfl, g1]
      simp only
      rw [if_neg (by rw [len_bytes]; omega), ba_self']
      congr 2
      omega
    · rw [bad_step hp, nx_ascii hp (by omega), if_neg (by simp)]
      simp only
      rw [g2, e]
  · have hw : wr t = x :: l := by
      unfold wr
      rw [if_neg (by omega), if_neg (by omega), k4]
    rw [hw] at h hsz hnext hcut ⊢
    have hd : ∀ k, k < (x :: l).length → wordB (bt q (p + k)) = true := fun k hk => by
      obtain ⟨b, hb1, hb2⟩ := bt_mem h hk
      rw [hb2]
      rcases List.mem_cons.1 hb1 with rfl | hb1
      · simp [wordB, k5]
      · exact k6 b hb1
    have hx : bt q p = x.toNat := by
      have := bt_at (k := 0) h
      simpa using this
    have hxd : digitB x.toNat = false ∧ blankB x.toNat = false := by
      simp only [letterB, decide_eq_true_eq] at k5
      simp only [digitB, blankB, decide_eq_false_iff_not]
      omega
    have hasc : ∀ k, k < (x :: l).length → bt q (p + k) < 128 := fun k hk => by
      have := hd k hk
      simp only [wordB, letterB, digitB, Bool.or_eq_true, decide_eq_true_eq] at this
      omega
    have hrun : runTo wordB q p = p + (x :: l).length := runTo_at (by omega) (by omega) (fun k h1 h2 => by have := hd (k - p) (by omega); rwa [show p + (k - p) = k by omega] at this) (fun hh => by rw [hnext, hbl3] at hh; cases hh.2)
    refine ⟨⟨3, t.text, 0, p⟩, ?_, ⟨k1, rfl, k2⟩, by rw [hx]; exact hxd.2, bad_asc _ _ (by omega) hasc, by omega⟩
    unfold tok1
    rw [hx, if_neg (by rw [hxd.1]; decide), if_pos k5, hrun, extract_cut (by omega), hcut, ← k4, ba_self']
  · have hw : wr t = t.text.data.toList := by
      unfold wr
      rw [if_neg (by omega), if_neg (by omega)]
    rw [hw] at h hsz hnext hcut ⊢
    rcases k3 with ⟨x, y, k3, k4⟩ | ⟨x, k3, k4⟩
    · rw [k3] at h hsz hnext hcut ⊢
      simp only [List.length_cons, List.length_nil] at hsz
      have hx : bt q p = x.toNat := by have := bt_at (k := 0) h; simpa using this
      have hy : bt q (p + 1) = y.toNat := by have := bt_at (k := 1) h; simpa using this
      have hs : signL q p = 2 := by
        unfold signL
        rw [hx, hy, if_pos ⟨by omega, k4⟩]
      have hx2 : digitB x.toNat = false ∧ letterB x.toNat = false ∧ x.toNat ≠ 34 ∧ blankB x.toNat = false := by
        simp only [digitB, letterB, blankB, decide_eq_false_iff_not]
        omega
      refine ⟨⟨4, t.text, 0, p⟩, ?_, ⟨k1, rfl, k2⟩, by rw [hx]; exact hx2.2.2.2, bad_asc _ _ (by simp; omega) (fun k hk => ?_), by omega⟩
      · unfold tok1
        rw [hx, hs, if_neg (by rw [hx2.1]; decide), if_neg (by rw [hx2.2.1]; decide), if_neg hx2.2.2.1, if_neg (by decide)]
        rw [show p + [x, y].length = p + 2 from rfl] at hcut ⊢
        rw [extract_cut (by omega), hcut, ← k3, ba_self']
      · simp only [List.length_cons, List.length_nil] at hk
        rcases (show k = 0 ∨ k = 1 by omega) with rfl | rfl
        · rw [Nat.add_zero, hx]; omega
        · rw [hy]; omega
    · rw [k3] at h hsz hnext hcut ⊢
      simp only [List.length_cons, List.length_nil] at hsz hnext
      have hx : bt q p = x.toNat := by have := bt_at (k := 0) h; simpa using this
      have hy : bt q (p + 1) = b0.toNat := hnext
      have hs : signL q p = 1 := by
        unfold signL
        rw [hx, hy, if_neg (by omega), if_pos k4]
      have hx2 : digitB x.toNat = false ∧ letterB x.toNat = false ∧ x.toNat ≠ 34 ∧ blankB x.toNat = false := by
        simp only [digitB, letterB, blankB, decide_eq_false_iff_not]
        omega
      refine ⟨⟨4, t.text, 0, p⟩, ?_, ⟨k1, rfl, k2⟩, by rw [hx]; exact hx2.2.2.2, bad_asc _ _ (by simp; omega) (fun k hk => ?_), by omega⟩
      · unfold tok1
        rw [hx, hs, if_neg (by rw [hx2.1]; decide), if_neg (by rw [hx2.2.1]; decide), if_neg hx2.2.2.1, if_neg (by decide)]
        rw [show p + [x].length = p + 1 from rfl] at hcut ⊢
        rw [extract_cut (by omega), hcut, ← k3, ba_self']
      · simp only [List.length_cons, List.length_nil] at hk
        obtain rfl : k = 0 := by omega
        rw [Nat.add_zero, hx]; omega
theorem toks_blanks {q : ByteArray} : ∀ (n p : Nat), p + n ≤ q.size → (∀ k, k < n → blankB (bt q (p + k)) = true) → runTo blankB q p = runTo blankB q (p + n)
  | 0, _, _, _ => rfl
  | n + 1, p, hn, h => by
    have h0 : blankB (bt q p) = true := h 0 (by omega)
    rw [← runTo_step (p := blankB) (by omega) h0, toks_blanks n (p + 1) (by omega) fun k hk => by have := h (k + 1) (by omega); rwa [show p + 1 + k = p + (k + 1) by omega]]
    rw [show p + 1 + n = p + (n + 1) by omega]
theorem toks_skip {q : ByteArray} {n p : Nat} {l : List Tk} (hn : p + n ≤ q.size) (h : ∀ k, k < n → blankB (bt q (p + k)) = true) (ht : toks q (p + n) [] = .ok l) : toks q p [] = .ok l := by
  have hr := toks_blanks n p hn h
  rcases toks_cons hn ht with ⟨h1, rfl⟩ | ⟨t, j, l', h1, h2, rfl, h3⟩
  · rw [toks, if_pos (by omega)]
  · exact toks_mk (by omega) (by rw [hr]; exact h2) h3
theorem toks_cat {sep : List UInt8} (hne : sep ≠ []) (hsep : ∀ b ∈ sep, blankB b.toNat = true) {q : ByteArray} : ∀ (l : List Tk) {p : Nat}, (∀ t ∈ l, GoodT t) → p ≤ q.size → q.data.toList.drop p = catT sep l →
    ∃ l', toks q p [] = .ok l' ∧ l'.length = l.length ∧ (∀ (k : Nat) (a b : Tk), l[k]? = some a → l'[k]? = some b → likeT a b) ∧ bad q p = -1
  | [], p, _, hp, h => by
    have hps : q.size ≤ p := by
      have := congrArg List.length h
      simp only [List.length_drop, len_bytes, catT, List.flatMap_nil, List.length_nil] at this
      omega
    exact ⟨[], toks_over hps, rfl, (fun k a b h => by simp at h), by rw [bad, if_pos hps]⟩
  | t :: l, p, hg, hp, h => by
    obtain ⟨b0, sp, rfl⟩ : ∃ b0 sp, sep = b0 :: sp := by
      cases sep with
      | nil => exact absurd rfl hne
      | cons a b => exact ⟨a, b, rfl⟩
    have hc : catT (b0 :: sp) (t :: l) = wr t ++ ((b0 :: sp) ++ catT (b0 :: sp) l) := by simp [catT]
    rw [hc] at h
    obtain ⟨t', h1, h2, h3, h4, h5⟩ := tok1_wr (hsep b0 List.mem_cons_self) (hg t List.mem_cons_self) h
    have hd1 := drop_at h
    have hd2 := drop_at hd1
    have hsz := size_at hd1 (by simp)
    simp only [List.length_append] at hsz
    obtain ⟨l', i1, i2, i3, i4⟩ := toks_cat hne hsep l (fun t ht => hg t (List.mem_cons_of_mem _ ht)) (by omega) hd2
    have hbl : ∀ k, k < (b0 :: sp).length → blankB (bt q (p + (wr t).length + k)) = true := fun k hk => by
      obtain ⟨b, hb1, hb2⟩ := bt_mem hd1 hk
      rw [hb2]; exact hsep b hb1
    have i1' := toks_skip (by omega) hbl i1
    have hr : runTo blankB q p = p := runTo_stop (by rw [h3]; simp)
    refine ⟨t' :: l', toks_mk (by omega) (by rw [hr]; exact h1) i1', by simp [i2], ?_, ?_⟩
    · intro k a b ha hb
      cases k with
      | zero =>
        simp only [List.getElem?_cons_zero, Option.some.injEq] at ha hb
        subst ha; subst hb
        exact h2
      | succ k =>
        simp only [List.getElem?_cons_succ] at ha hb
        exact i3 k a b ha hb
    · rw [h4, bad_asc (b0 :: sp).length _ (by omega) (fun k hk => (blank_asc (hbl k hk)).1)]
      exact i4
end Vai

/-
  The tokens of a formula are good.
-/
namespace Vai
open Go
theorem chs_more {A B : List UInt8} {i : Nat} (hi : i ≤ A.length) (h : chs ⟨A.toArray⟩ i = true) : chs ⟨(A ++ B).toArray⟩ i = chs ⟨(A ++ B).toArray⟩ A.length := by
  have hsA := size_list A
  have hsAB := size_list (A ++ B)
  simp only [List.length_append] at hsAB
  fun_induction chs ⟨A.toArray⟩ i with
  | case1 i h1 =>
    have : i = A.length := by omega
    rw [this]
  | case2 i h1 h2 => cases h
  | case3 i h1 h2 ih =>
    have hle := nx_le (s := ⟨A.toArray⟩) (i := i) (by omega)
    simp only [not_or] at h2
    have hnx : nx ⟨(A ++ B).toArray⟩ i = nx ⟨A.toArray⟩ i := nx_part h2.1 (by omega) (by omega) fun k hk => by
      have hlt : i + k < A.length := by omega
      obtain ⟨b, _, e1, e2⟩ := bt_list_mem hlt
      rw [e1]
      exact bt_list (by rw [List.getElem?_append_left hlt]; exact e2)
    rw [chs_step (by omega), hnx, if_neg (by rintro (h | h); exact h2.1 h; exact h2.2 h)]
    exact ih (by omega) h
theorem chs_snoc {A : List UInt8} {s : ByteArray} {j : Nat} (h : chs ⟨A.toArray⟩ 0 = true) (hc : charB (nx s j).1 = true) : chs ⟨(A ++ cut s j (j + (nx s j).2)).toArray⟩ 0 = true := by
  have hnc := nx_char hc
  have hcl := cut_len (i := j) hnc.2
  have hsAB := size_list (A ++ cut s j (j + (nx s j).2))
  simp only [List.length_append, hcl] at hsAB
  rw [chs_more (Nat.zero_le _) h]
  have hnx : nx ⟨(A ++ cut s j (j + (nx s j).2)).toArray⟩ A.length = nx s j := nx_part (by omega) (by omega) (by omega) fun k hk => by
    obtain ⟨b, hb⟩ : ∃ b, (cut s j (j + (nx s j).2))[k]? = some b := ⟨(cut s j (j + (nx s j).2))[k]'(by omega), List.getElem?_eq_getElem (by omega)⟩
    rw [(cut_get hb).2]
    exact bt_list (by rw [List.getElem?_append_right (by omega), show A.length + k - A.length = k by omega]; exact hb)
  rw [chs_step (by omega), hnx, if_neg (by rw [hc]; simp; omega), chs_over (by omega)]
theorem txt_chs {s : ByteArray} {fr i : Nat} {out o : List UInt8} {e : Nat} (h : txt s fr i out = .ok (o, e)) (hc : chs ⟨out.toArray⟩ 0 = true) : chs ⟨o.toArray⟩ 0 = true := by
  fun_induction txt s fr i out with
  | case1 => cases h
  | case2 i out h1 h2 => cases h; exact hc
  | case3 => cases h
  | case4 => cases h
  | case5 i out h1 h2 h3 h4 h5 hc2 ih => exact ih h (chs_snoc hc hc2)
  | case6 => cases h
  | case7 i out h1 h2 h3 hc2 ih => exact ih h (chs_snoc hc hc2)
  | case8 => cases h
theorem ext_bytes {s : ByteArray} {i j : Nat} (h : i ≤ j) : (s.extract i j).data.toList = cut s i j := by rw [extract_cut h]
theorem tok1_good {s : ByteArray} {i j : Nat} {t : Tk} (hs : s.size ≤ 256) (hi : i < s.size) (h : tok1 s i = .ok (t, j)) : GoodT t := by
  obtain ⟨x, hx⟩ := drop_head hi
  obtain ⟨_, hb⟩ := bt_head hx
  unfold tok1 at h
  split at h
  · rename_i h1
    cases hn : numS (cut s i (runTo digitB s i)) with
    | none => rw [hn] at h; cases h
    | some n =>
      rw [hn] at h
      cases h
      unfold numS at hn
      split at hn
      · rename_i h2
        cases hn
        exact .inl ⟨rfl, rfl, _, rfl, h2.1⟩
      · cases hn
  split at h
  · rename_i h1
    have hw : wordB (bt s i) = true := by simp [wordB, h1]
    have hge := runTo_ge wordB s (i + 1)
    rw [runTo_step hi hw] at hge
    have hle := runTo_le (p := wordB) (s := s) (i := i) (by omega)
    have hall := cut_all (p := wordB) (s := s) (i := i)
    cases h
    refine .inr (.inr (.inl ⟨rfl, rfl, ?_, x, cut s (i + 1) (runTo wordB s i), ?_, by rw [← hb]; exact h1, fun b hbm => ?_⟩))
    · rw [size_ext hle]; omega
    · rw [ext_bytes (by omega)]
      obtain ⟨n, hn⟩ : ∃ n, runTo wordB s i = i + (n + 1) := ⟨runTo wordB s i - i - 1, by omega⟩
      rw [hn, cut_succ hx, show i + 1 + n = i + (n + 1) by omega]
    · apply hall
      obtain ⟨n, hn⟩ : ∃ n, runTo wordB s i = i + (n + 1) := ⟨runTo wordB s i - i - 1, by omega⟩
      rw [hn, cut_succ hx]
      rw [hn, show i + (n + 1) = i + 1 + n by omega] at hbm
      exact List.mem_cons_of_mem _ hbm
  split at h
  · rename_i h1
    cases ht : txt s i (i + 1) [] with
    | error f => rw [ht] at h; cases h
    | ok oe =>
      obtain ⟨o, e⟩ := oe
      rw [ht] at h
      simp only at h
      by_cases h64 : 64 < o.length
      · rw [if_pos h64] at h; cases h
      · rw [if_neg h64] at h
        cases h
        refine .inr (.inl ⟨rfl, rfl, txt_chs ht (chs_over (by rw [size_list]; exact Nat.le_refl _)), ?_⟩)
        rw [size_list]; omega
  split at h
  · cases h
  · rename_i h1
    cases h
    refine .inr (.inr (.inr ⟨rfl, rfl, ?_⟩))
    unfold signL at h1 ⊢
    split
    · rename_i h2
      obtain ⟨y, hy⟩ := drop_head (s := s) (i := i + 1) (by omega)
      obtain ⟨_, hby⟩ := bt_head hy
      refine .inl ⟨x, y, ?_, ?_⟩
      · simp only
        rw [ext_bytes (by omega), show i + 2 = i + (1 + 1) from rfl, cut_succ hx, cut_one' hy]
      · rw [← hb, ← hby]; exact h2.2
    · rename_i h2
      rw [if_neg h2] at h1
      split
      · rename_i h3
        refine .inr ⟨x, ?_, ?_⟩
        · simp only
          rw [ext_bytes (by omega), cut_one' hx]
        · rw [← hb]; exact h3
      · rename_i h3
        rw [if_neg h3] at h1
        exact absurd rfl h1
theorem toks_good {s : ByteArray} (hs : s.size ≤ 256) : ∀ (n : Nat) {i : Nat} {l : List Tk}, s.size - i ≤ n → i ≤ s.size → toks s i [] = .ok l → ∀ t ∈ l, GoodT t := by
  intro n
  induction n with
  | zero =>
    intro i l hn hi h
    rw [toks_over (by omega)] at h
    cases h
    intro t ht; cases ht
  | succ n ih =>
    intro i l hn hi h t ht
    have hge := runTo_ge blankB s i
    rcases toks_cons hi h with ⟨_, rfl⟩ | ⟨t', j, l', h1, h2, rfl, h3⟩
    · cases ht
    · have hgt := tok1_gt h1 h2
      rcases List.mem_cons.1 ht with rfl | ht
      · exact tok1_good hs h1 h2
      · exact ih (by omega) hgt.2 h3 t ht
theorem lexS_good (s : ByteArray) : ∀ t ∈ (lexS s).1, GoodT t := by
  unfold lexS
  split
  · intro t ht; cases ht
  split
  · intro t ht; cases ht
  cases h : toks s 0 [] with
  | error f => intro t ht; cases ht
  | ok l => exact toks_good (by omega) s.size (by omega) (Nat.zero_le _) h
/-- Tokens that are written with blanks between them are read as they were. -/
theorem lexS_cat {sep : List UInt8} (hne : sep ≠ []) (hsep : ∀ b ∈ sep, blankB b.toNat = true) {l : List Tk} (hg : ∀ t ∈ l, GoodT t) (hlen : (catT sep l).length ≤ 256) :
    ∃ l', lexS ⟨(catT sep l).toArray⟩ = (l', 0, 0) ∧ l'.length = l.length ∧ ∀ (k : Nat) (a b : Tk), l[k]? = some a → l'[k]? = some b → likeT a b := by
  obtain ⟨l', h1, h2, h3, h4⟩ := toks_cat hne hsep (q := ⟨(catT sep l).toArray⟩) l (p := 0) hg (Nat.zero_le _) (by simp)
  refine ⟨l', ?_, h2, h3⟩
  unfold lexS
  rw [if_neg (by rw [size_list]; omega), h4, if_neg (by decide), h1]
theorem lexS_big {s : ByteArray} (h : 256 < s.size) : lexS s = ([], 0, 3) := by unfold lexS; rw [if_pos h]
end Vai

/-
  Go's own runes of a text, where they are right.
-/
namespace Vai
open Go
theorem get_bt (s : ByteArray) (j : Nat) : (s.get! j).toNat = bt s j := by
  cases s with
  | mk d =>
    show (d[j]!).toNat = match d[j]? with | some b => b.toNat | none => 0
    rw [getElem!_def]
    cases h : d[j]? <;> rfl
theorem cont_bt (s : ByteArray) (j : Nat) : (decide (j < s.size) && bt s j / 64 == 2) = contB (bt s j) := by
  by_cases h : contB (bt s j) = true
  · rw [h]
    have := cont_lt h
    simp only [contB] at h
    simp [this, h]
  · have h' : contB (bt s j) = false := by simpa using h
    rw [h']
    simp only [contB] at h'
    simp [h']
theorem dec_nx {s : ByteArray} {i : Nat} (h : (nx s i).2 ≠ 0) : ((Utf8.decode s i).1 : Int) = (nx s i).1 ∧ (Utf8.decode s i).2 = (nx s i).2 := by
  unfold Utf8.decode
  simp only [get_bt, cont_bt, Nat.add_zero]
  unfold nx at h ⊢
  by_cases c0 : s.size ≤ i
  · rw [if_pos c0] at h; exact absurd rfl h
  rw [if_neg c0] at h ⊢
  simp only at h ⊢
  by_cases c1 : bt s i < 128
  · rw [if_pos c1, if_pos c1]; exact ⟨rfl, rfl⟩
  rw [if_neg c1] at h ⊢
  rw [if_neg c1]
  by_cases c2 : bt s i < 192
  · rw [if_pos c2] at h; exact absurd rfl h
  rw [if_neg c2] at h ⊢
  by_cases c3 : bt s i < 224
  · rw [if_pos c3] at h ⊢
    by_cases g : i + 2 ≤ s.size ∧ contB (bt s (i + 1)) = true ∧ 128 ≤ bt s i % 32 * 64 + bt s (i + 1) % 64
    · rw [if_pos g]
      have e : bt s i / 32 = 6 := by omega
      rw [if_pos (by simp [e, g.2.1]), if_pos g.2.2]
      exact ⟨rfl, rfl⟩
    · rw [if_neg g] at h; exact absurd rfl h
  rw [if_neg c3] at h ⊢
  have e6 : ¬ bt s i / 32 = 6 := by omega
  rw [if_neg (by simp [e6])]
  by_cases c4 : bt s i < 240
  · rw [if_pos c4] at h ⊢
    by_cases g : i + 3 ≤ s.size ∧ contB (bt s (i + 1)) = true ∧ contB (bt s (i + 2)) = true ∧ 2048 ≤ bt s i % 16 * 4096 + bt s (i + 1) % 64 * 64 + bt s (i + 2) % 64 ∧ (bt s i % 16 * 4096 + bt s (i + 1) % 64 * 64 + bt s (i + 2) % 64 < 55296 ∨ 57343 < bt s i % 16 * 4096 + bt s (i + 1) % 64 * 64 + bt s (i + 2) % 64)
    · rw [if_pos g]
      have e : bt s i / 16 = 14 := by omega
      rw [if_pos (by simp [e, g.2.1, g.2.2.1])]
      have hv : (decide (bt s i % 16 * 4096 + bt s (i + 1) % 64 * 64 + bt s (i + 2) % 64 ≥ 2048) && Utf8.valid (bt s i % 16 * 4096 + bt s (i + 1) % 64 * 64 + bt s (i + 2) % 64 : Nat)) = true := by
        have g1 := g.2.2.2.1
        have g2 := g.2.2.2.2
        simp [Utf8.valid]
        omega
      rw [if_pos hv]
      exact ⟨rfl, rfl⟩
    · rw [if_neg g] at h; exact absurd rfl h
  rw [if_neg c4] at h ⊢
  have e14 : ¬ bt s i / 16 = 14 := by omega
  rw [if_neg (by simp [e14])]
  by_cases c5 : bt s i < 248
  · rw [if_pos c5] at h ⊢
    by_cases g : i + 4 ≤ s.size ∧ contB (bt s (i + 1)) = true ∧ contB (bt s (i + 2)) = true ∧ contB (bt s (i + 3)) = true ∧ 65536 ≤ bt s i % 8 * 262144 + bt s (i + 1) % 64 * 4096 + bt s (i + 2) % 64 * 64 + bt s (i + 3) % 64 ∧ bt s i % 8 * 262144 + bt s (i + 1) % 64 * 4096 + bt s (i + 2) % 64 * 64 + bt s (i + 3) % 64 ≤ 1114111
    · rw [if_pos g]
      have e : bt s i / 8 = 30 := by omega
      rw [if_pos (by simp [e, g.2.1, g.2.2.1, g.2.2.2.1])]
      have hv : (decide (bt s i % 8 * 262144 + bt s (i + 1) % 64 * 4096 + bt s (i + 2) % 64 * 64 + bt s (i + 3) % 64 ≥ 65536) && Utf8.valid (bt s i % 8 * 262144 + bt s (i + 1) % 64 * 4096 + bt s (i + 2) % 64 * 64 + bt s (i + 3) % 64 : Nat)) = true := by
        have g1 := g.2.2.2.2.1
        have g2 := g.2.2.2.2.2
        simp [Utf8.valid]
        omega
      rw [if_pos hv]
      exact ⟨rfl, rfl⟩
    · rw [if_neg g] at h; exact absurd rfl h
  rw [if_neg c5] at h
  exact absurd rfl h
theorem bad_chs {s : ByteArray} {i : Nat} (h : 0 ≤ bad s i) : chs s i = false := by
  fun_induction bad s i with
  | case1 => omega
  | case2 i h1 h2 => rw [chs_step (by omega), if_pos (.inl h2)]
  | case3 i h1 h2 ih =>
    rw [chs_step (by omega)]
    by_cases hc : charB (nx s i).1 = false
    · rw [if_pos (.inr hc)]
    · rw [if_neg (by rintro (h | h); exact h2 h; exact hc h)]
      exact ih h
end Vai
