import Derived.Test.YtlcbhhmnfmeoeaaDoorU5
set_option linter.unusedSimpArgs false
set_option linter.unusedVariables false
set_option linter.unusedSectionVars false
/-
  What a text behind backslashes means.
-/
namespace Vai
open Go
theorem chs_step {s : ByteArray} {i : Nat} (hi : i < s.size) : chs s i = if (nx s i).2 = 0 ∨ charB (nx s i).1 = false then false else chs s (i + (nx s i).2) := by
  rw [chs, if_neg (by omega)]
  split <;> rfl
theorem chs_over {s : ByteArray} {i : Nat} (hi : s.size ≤ i) : chs s i = true := by rw [chs, if_pos hi]
theorem bad_step {s : ByteArray} {i : Nat} (hi : i < s.size) : bad s i = if (nx s i).2 = 0 then (i : Int) else bad s (i + (nx s i).2) := by
  rw [bad, if_neg (by omega)]
theorem txt_step {s : ByteArray} {fr i : Nat} {out : List UInt8} (hi : i < s.size) (h34 : bt s i ≠ 34) (h92 : bt s i ≠ 92) : txt s fr i out = if charB (nx s i).1 = true then txt s fr (i + (nx s i).2) (out ++ cut s i (i + (nx s i).2)) else .error (i, 81) := by
  rw [txt, if_neg (by omega), if_neg h34, if_neg h92]
  split <;> rfl
theorem txt_back {s : ByteArray} {fr i : Nat} {out : List UInt8} (hi : i + 1 < s.size) (h92 : bt s i = 92) (h1 : bt s (i + 1) = 34 ∨ bt s (i + 1) = 92) : txt s fr i out = txt s fr (i + 2) (out ++ cut s (i + 1) (i + 2)) := by
  have hn : nx s (i + 1) = ((bt s (i + 1) : Int), 1) := nx_ascii (by omega) (by omega)
  have hc : charB (nx s (i + 1)).1 = true := by
    rw [hn]
    rcases h1 with h | h <;> rw [h] <;> decide
  rw [txt, if_neg (by omega), if_neg (by omega), if_pos h92, if_neg (by omega), if_neg (by omega), dif_pos hc, hn]
  rfl
theorem cut_one' {s : ByteArray} {i : Nat} {x : UInt8} {r : List UInt8} (h : s.data.toList.drop i = x :: r) : cut s i (i + 1) = [x] := by
  obtain ⟨_, h2⟩ := drop_cons h
  have := cut_succ (s := s) (i := i) (n := 0) (x := x) (by rw [h, h2])
  rw [this, cut_zero]
theorem bt_head {s : ByteArray} {i : Nat} {x : UInt8} {r : List UInt8} (h : s.data.toList.drop i = x :: r) : i < s.size ∧ bt s i = x.toNat := by
  obtain ⟨h1, _⟩ := drop_cons h
  rw [len_bytes] at h1
  exact ⟨h1, by rw [bt_drop, h]; rfl⟩
theorem drop_head {s : ByteArray} {i : Nat} (h : i < s.size) : ∃ x, s.data.toList.drop i = x :: s.data.toList.drop (i + 1) := by
  refine ⟨s.data.toList[i]'(by rw [len_bytes]; exact h), ?_⟩
  exact List.drop_eq_getElem_cons (by rw [len_bytes]; exact h)
theorem drop_cut {s : ByteArray} {i n : Nat} : s.data.toList.drop i = cut s i (i + n) ++ s.data.toList.drop (i + n) := by
  unfold cut
  rw [show i + n - i = n by omega, ← List.drop_drop]
  exact (List.take_append_drop n _).symm
theorem txt_esc {s q : ByteArray} {R : List UInt8} {fr : Nat} : ∀ (n i p : Nat) (out : List UInt8), s.size - i ≤ n → i ≤ s.size → Esc s q R i p →
    (chs s i = true → txt q fr p out = .ok (out ++ s.data.toList.drop i, q.size - R.length - 1) ∧ bad q p = bad q (q.size - R.length)) ∧ (chs s i = false → bad q p = -1 → ∃ a, txt q fr p out = .error (a, 81)) := by
  intro n
  induction n with
  | zero =>
    intro i p out hn hi h
    have hi' : i = s.size := by omega
    subst hi'
    refine ⟨fun _ => ?_, fun h => by rw [chs_over (Nat.le_refl _)] at h; cases h⟩
    have hnil : s.data.toList.drop s.size = [] := List.drop_of_length_le (by rw [len_bytes]; omega)
    unfold Esc at h
    rw [hnil] at h ⊢
    simp only [esc, List.flatMap_nil, List.nil_append] at h
    obtain ⟨h1, h2⟩ := bt_head h
    have hl := congrArg List.length h
    simp only [List.length_drop, len_bytes, List.length_cons] at hl
    have h34 : bt q p = 34 := h2
    refine ⟨?_, ?_⟩
    · rw [txt, if_neg (by omega), if_pos h34, List.append_nil]
      congr 2
      omega
    · rw [bad_step h1, nx_ascii h1 (by omega), if_neg (by simp)]
      congr 1
      simp only
      omega
  | succ n ih =>
    intro i p out hn hi h
    by_cases he : i = s.size
    · exact ih i p out (by omega) hi h
    have hi' : i < s.size := by omega
    obtain ⟨x, hX⟩ := drop_head hi'
    obtain ⟨_, hb⟩ := bt_head hX
    rw [chs_step hi']
    by_cases h128 : bt s i < 128
    · have hnx := nx_ascii hi' h128
      have h' := h
      unfold Esc at h'
      rw [hX, esc_cons] at h'
      rw [hnx]
      simp only [Nat.succ_ne_zero, false_or, show ((1 : Nat) = 0) = False from by simp]
      by_cases hx : x = 34 ∨ x = 92
      · rw [show escB x = [92, x] from if_pos hx] at h'
        simp only [List.cons_append, List.nil_append] at h'
        obtain ⟨hp1, hb1⟩ := bt_head h'
        obtain ⟨_, h2⟩ := drop_cons h'
        obtain ⟨hp2, hb2⟩ := bt_head h2
        obtain ⟨_, h3⟩ := drop_cons h2
        have hx' : x.toNat = 34 ∨ x.toNat = 92 := by
          rcases hx with rfl | rfl
          · exact .inl rfl
          · exact .inr rfl
        have hch : charB (bt s i : Int) = true := by rw [hb]; rcases hx' with h | h <;> rw [h] <;> decide
        rw [hch, if_neg (by simp)]
        have hE : Esc s q R (i + 1) (p + 2) := h3
        have hb1' : bt q p = 92 := hb1
        rw [txt_back hp2 hb1' (by rw [hb2]; exact hx'), cut_one' h2]
        obtain ⟨g1, g2⟩ := ih (i + 1) (p + 2) (out ++ [x]) (by omega) (by omega) hE
        have hbad : bad q p = bad q (p + 2) := by
          rw [bad_step hp1, nx_ascii hp1 (by omega), if_neg (by simp)]
          simp only
          rw [bad_step hp2, nx_ascii hp2 (by omega), if_neg (by simp)]
          rfl
        rw [hbad]
        refine ⟨fun hc => ?_, g2⟩
        obtain ⟨k1, k2⟩ := g1 hc
        refine ⟨?_, k2⟩
        rw [k1, hX]
        simp
      · rw [show escB x = [x] from if_neg hx] at h'
        simp only [List.cons_append, List.nil_append] at h'
        obtain ⟨hp1, hb1⟩ := bt_head h'
        obtain ⟨_, h2⟩ := drop_cons h'
        have hE : Esc s q R (i + 1) (p + 1) := h2
        have n34 : bt q p ≠ 34 := by
          rw [hb1]; intro h; exact hx (.inl (UInt8.toNat_inj.1 h))
        have n92 : bt q p ≠ 92 := by
          rw [hb1]; intro h; exact hx (.inr (UInt8.toNat_inj.1 h))
        have hq := nx_ascii hp1 (by omega)
        have hbb : bt q p = bt s i := by omega
        rw [txt_step hp1 n34 n92, hq, hbb]
        simp only
        have hbad : bad q p = bad q (p + 1) := by
          rw [bad_step hp1, hq, if_neg (by simp)]
        rw [hbad]
        by_cases hch : charB (bt s i : Int) = true
        · rw [if_pos hch, if_neg (by simp [hch]), cut_one' h']
          obtain ⟨g1, g2⟩ := ih (i + 1) (p + 1) (out ++ [x]) (by omega) (by omega) hE
          refine ⟨fun hc => ?_, g2⟩
          obtain ⟨k1, k2⟩ := g1 hc
          refine ⟨?_, k2⟩
          rw [k1, hX]
          simp
        · rw [if_neg hch, if_pos (by simpa using hch)]
          exact ⟨(fun h => by cases h), fun _ _ => ⟨_, rfl⟩⟩
    · obtain ⟨hp, hnx, hmore, hbb⟩ := h.high hi' (by omega)
      by_cases h0 : (nx s i).2 = 0
      · rw [if_pos (.inl h0)]
        refine ⟨(fun h => by cases h), fun _ hbad => ?_⟩
        rw [bad_step hp, hnx, if_pos h0] at hbad
        omega
      · obtain ⟨hE, hcut⟩ := hmore (by omega)
        have hle := nx_le hi'
        rw [txt_step hp (by omega) (by omega), hnx]
        have hbad : bad q p = bad q (p + (nx s i).2) := by rw [bad_step hp, hnx, if_neg h0]
        rw [hbad]
        by_cases hch : charB (nx s i).1 = true
        · rw [if_pos hch, if_neg (by simp [h0, hch]), ← hcut]
          obtain ⟨g1, g2⟩ := ih (i + (nx s i).2) (p + (nx s i).2) (out ++ cut s i (i + (nx s i).2)) (by omega) hle hE
          refine ⟨fun hc => ?_, g2⟩
          obtain ⟨k1, k2⟩ := g1 hc
          refine ⟨?_, k2⟩
          rw [k1, List.append_assoc, ← drop_cut]
        · rw [if_neg hch, if_pos (.inr (by simpa using hch))]
          exact ⟨(fun h => by cases h), fun _ _ => ⟨_, rfl⟩⟩
/-- A text alone. -/
theorem lexS_text {s q : ByteArray} (hq : q.data.toList = 34 :: (esc s.data.toList ++ [34])) (hs : s.size ≤ 100) :
    (chs s 0 = true ∧ s.size ≤ 64 ∧ lexS q = ([⟨2, s, 0, 0⟩], 0, 0)) ∨ (chs s 0 = true ∧ 64 < s.size ∧ lexS q = ([], 0, 3)) ∨ (chs s 0 = false ∧ ∃ a w, lexS q = ([], a, w) ∧ (w = 71 ∨ w = 81)) := by
  have hlen := congrArg List.length hq
  have hel := esc_len s.data.toList
  simp only [len_bytes, List.length_cons, List.length_append, List.length_nil] at hlen hel
  have hq0 : q.data.toList.drop 0 = 34 :: (esc s.data.toList ++ [34]) := by rw [List.drop_zero]; exact hq
  obtain ⟨hp, hb⟩ := bt_head hq0
  have hb34 : bt q 0 = 34 := hb
  obtain ⟨_, h1⟩ := drop_cons hq0
  have hE : Esc s q [] 0 1 := by unfold Esc; rw [List.drop_zero]; exact h1
  obtain ⟨g1, g2⟩ := txt_esc (fr := 0) s.size 0 1 [] (by omega) (by omega) hE
  have hbad : bad q 0 = bad q 1 := by rw [bad_step hp, nx_ascii hp (by omega), if_neg (by simp)]; rfl
  have hsize : (⟨s.data.toList.toArray⟩ : ByteArray) = s := by cases s; simp
  have htok : tok1 q 0 = match txt q 0 (0 + 1) [] with
      | .ok (out, e) => if 64 < out.length then .error (0, 3) else .ok (⟨2, ⟨out.toArray⟩, 0, (0 : Nat)⟩, e + 1)
      | .error f => .error f := by
    unfold tok1
    rw [hb34, if_neg (by decide), if_neg (by decide), if_pos rfl]
    rfl
  unfold lexS
  rw [if_neg (by omega)]
  cases hc : chs s 0 with
  | true =>
    obtain ⟨k1, k2⟩ := g1 hc
    have hbe : bad q (q.size - ([] : List UInt8).length) = -1 := by rw [bad, if_pos (by simp)]
    rw [hbad, k2, hbe, if_neg (by decide), toks_one hp (by rw [hb34]; decide), htok]
    rw [show 0 + 1 = 1 from rfl, k1]
    simp only [List.nil_append, List.drop_zero, len_bytes, List.length_nil, Nat.sub_zero]
    by_cases h64 : 64 < s.size
    · rw [if_pos h64]
      exact .inr (.inl ⟨trivial, h64, rfl⟩)
    · rw [if_neg h64]
      refine .inl ⟨trivial, by omega, ?_⟩
      simp only
      rw [toks_over (by omega), hsize]
      rfl
  | false =>
    refine .inr (.inr ⟨rfl, ?_⟩)
    by_cases hbd : 0 ≤ bad q 0
    · rw [if_pos hbd]
      exact ⟨_, _, rfl, .inl rfl⟩
    · rw [if_neg hbd, toks_one hp (by rw [hb34]; decide), htok]
      have hm1 : bad q 1 = -1 := by
        have hge : ∀ i, bad q i = -1 ∨ 0 ≤ bad q i := fun i => by
          fun_induction bad q i with
          | case1 => exact .inl rfl
          | case2 => exact .inr (by omega)
          | case3 _ _ _ ih => exact ih
        rcases hge 1 with h | h <;> omega
      obtain ⟨a, ha⟩ := g2 hc hm1
      rw [show 0 + 1 = 1 from rfl, ha]
      exact ⟨_, _, rfl, .inr rfl⟩
end Vai
