import Derived.Test.YtlcbhhmnfmeoeaaDoorU8
set_option linter.unusedSimpArgs false
set_option linter.unusedVariables false
set_option linter.unusedSectionVars false
/-
  Tokens that are written with blanks between them.
-/
namespace Vai
open Go
theorem nx_part {s q : ByteArray} {i p : Nat} (h0 : (nx s i).2 ≠ 0) (hi : i < s.size) (hp : p < q.size) (hb : ∀ k, k < (nx s i).2 → bt q (p + k) = bt s (i + k)) : nx q p = nx s i := by
  obtain ⟨n2, n3, n4⟩ := nx_need h0
  have b0 := hb 0 (by omega)
  simp only [Nat.add_zero] at b0
  by_cases h128 : bt s i < 128
  · rw [nx_ascii hp (by omega), nx_ascii hi h128, b0]
  have := n2 (by omega)
  refine (nx_congr hi hp b0.symm (fun _ => (hb 1 (by omega)).symm) (fun h224 _ _ => ?_) (fun h240 _ _ _ => ?_)).symm
  · have := n3 h224; exact (hb 2 (by omega)).symm
  · have := n4 h240; exact (hb 3 (by omega)).symm
theorem bt_at {q : ByteArray} {p k : Nat} {L : List UInt8} (h : q.data.toList.drop p = L) : bt q (p + k) = (L.getD k 0).toNat := by
  rw [bt_drop, ← List.drop_drop, h, List.getD_eq_getElem?_getD, List.getElem?_drop, Nat.add_zero, List.getD_eq_getElem?_getD]
theorem bt_mem {q : ByteArray} {p k : Nat} {X Y : List UInt8} (h : q.data.toList.drop p = X ++ Y) (hk : k < X.length) : ∃ b ∈ X, bt q (p + k) = b.toNat := by
  refine ⟨X[k], List.getElem_mem hk, ?_⟩
  rw [bt_at h, List.getD_eq_getElem?_getD, List.getElem?_append_left hk, List.getElem?_eq_getElem hk]
  rfl
theorem cut_at {q : ByteArray} {p : Nat} {X Y : List UInt8} (h : q.data.toList.drop p = X ++ Y) : cut q p (p + X.length) = X := by
  unfold cut
  rw [h, show p + X.length - p = X.length by omega, List.take_left]
theorem size_at {q : ByteArray} {p : Nat} {L : List UInt8} (h : q.data.toList.drop p = L) (hne : L ≠ []) : p + L.length = q.size := by
  have := congrArg List.length h
  simp only [List.length_drop, len_bytes] at this
  have hl := List.length_pos_iff.2 hne
  omega
theorem drop_at {q : ByteArray} {p : Nat} {X Y : List UInt8} (h : q.data.toList.drop p = X ++ Y) : q.data.toList.drop (p + X.length) = Y := by
  rw [← List.drop_drop, h, List.drop_left]
theorem bad_asc {q : ByteArray} : ∀ (n p : Nat), p + n ≤ q.size → (∀ k, k < n → bt q (p + k) < 128) → bad q p = bad q (p + n)
  | 0, p, _, _ => rfl
  | n + 1, p, hn, h => by
    have h0 : bt q p < 128 := h 0 (by omega)
    rw [bad_step (by omega), nx_ascii (by omega) h0, if_neg (by simp)]
    have := bad_asc (q := q) n (p + 1) (by omega) fun k hk => by have := h (k + 1) (by omega); rwa [show p + 1 + k = p + (k + 1) by omega]
    rw [show p + (n + 1) = p + 1 + n by omega]
    exact this
/-- What a token is. -/
def GoodT (t : Tk) : Prop := (t.kind = 1 ∧ t.text = noText ∧ ∃ n : Nat, t.n = n ∧ n < 9223372036854775808) ∨ (t.kind = 2 ∧ t.n = 0 ∧ chs t.text 0 = true ∧ t.text.size ≤ 64) ∨
  (t.kind = 3 ∧ t.n = 0 ∧ t.text.size ≤ 256 ∧ ∃ x l, t.text.data.toList = x :: l ∧ letterB x.toNat = true ∧ ∀ b ∈ l, wordB b.toNat = true) ∨
  (t.kind = 4 ∧ t.n = 0 ∧ ((∃ x y, t.text.data.toList = [x, y] ∧ ((x.toNat = 61 ∧ y.toNat = 61) ∨ (x.toNat = 33 ∧ y.toNat = 61) ∨ (x.toNat = 60 ∧ y.toNat = 61) ∨ (x.toNat = 62 ∧ y.toNat = 61) ∨ (x.toNat = 38 ∧ y.toNat = 38) ∨ (x.toNat = 124 ∧ y.toNat = 124))) ∨
    ∃ x, t.text.data.toList = [x] ∧ (x.toNat = 43 ∨ x.toNat = 45 ∨ x.toNat = 42 ∨ x.toNat = 47 ∨ x.toNat = 37 ∨ x.toNat = 40 ∨ x.toNat = 41 ∨ x.toNat = 63 ∨ x.toNat = 58 ∨ x.toNat = 33 ∨ x.toNat = 60 ∨ x.toNat = 62)))
/-- How a token is written. -/
def wr (t : Tk) : List UInt8 := if t.kind = 1 then decL t.n else if t.kind = 2 then 34 :: (esc t.text.data.toList ++ [34]) else t.text.data.toList
def catT (sep : List UInt8) (l : List Tk) : List UInt8 := l.flatMap fun t => wr t ++ sep
def likeT (a b : Tk) : Prop := a.kind = b.kind ∧ a.text = b.text ∧ a.n = b.n
theorem blank_asc {b : Nat} (h : blankB b = true) : b < 128 ∧ digitB b = false ∧ wordB b = false ∧ b ≠ 61 ∧ b ≠ 38 ∧ b ≠ 124 := by
  simp only [blankB, decide_eq_true_eq] at h
  rcases h with rfl | rfl | rfl | rfl <;> decide
theorem ba_self' (s : ByteArray) : (⟨s.data.toList.toArray⟩ : ByteArray) = s := by cases s; simp
/-- One token is read. -/
theorem tok1_wr {q : ByteArray} {p : Nat} {t : Tk} {b0 : UInt8} {R : List UInt8} (hb : blankB b0.toNat = true) (hg : GoodT t) (h : q.data.toList.drop p = wr t ++ b0 :: R) :
    ∃ t', tok1 q p = .ok (t', p + (wr t).length) ∧ likeT t t' ∧ blankB (bt q p) = false ∧ bad q p = bad q (p + (wr t).length) ∧ p < q.size := by
  obtain ⟨hbl1, hbl2, hbl3, hbl4, hbl5, hbl6⟩ := blank_asc hb
  have hsz := size_at h (by simp)
  simp only [List.length_append, List.length_cons] at hsz
  have hnext : bt q (p + (wr t).length) = b0.toNat := by
    rw [bt_at h, List.getD_eq_getElem?_getD, List.getElem?_append_right (Nat.le_refl _)]
    simp
  have hcut := cut_at h
  rcases hg with ⟨k1, k2, n, k3, k4⟩ | ⟨k1, k2, k3, k4⟩ | ⟨k1, k2, k3, x, l, k4, k5, k6⟩ | ⟨k1, k2, k3⟩
  · have hw : wr t = dig n := by
      unfold wr decL
      rw [if_pos k1, k3, if_neg (by omega)]
      rfl
    rw [hw] at h hsz hnext hcut ⊢
    have hpos : 0 < (dig n).length := List.length_pos_iff.2 (dig_ne n)
    have hd : ∀ k, k < (dig n).length → digitB (bt q (p + k)) = true := fun k hk => by
      obtain ⟨b, hb1, hb2⟩ := bt_mem h hk
      rw [hb2]; exact dig_all n b hb1
    have hd0 : digitB (bt q p) = true := hd 0 hpos
    have hrun : runTo digitB q p = p + (dig n).length := runTo_at (by omega) (by omega) (fun k h1 h2 => by have := hd (k - p) (by omega); rwa [show p + (k - p) = k by omega] at this) (fun hh => by rw [hnext, hbl2] at hh; cases hh.2)
    refine ⟨⟨1, noText, n, p⟩, ?_, ⟨k1, k2, k3⟩, (digit_not hd0).1, bad_asc _ _ (by omega) fun k hk => (digit_not (hd k hk)).2, by omega⟩
    unfold tok1
    rw [if_pos hd0, hrun, hcut, numS_dig k4]
  · have hw : wr t = 34 :: (esc t.text.data.toList ++ [34]) := by
      unfold wr
      rw [if_neg (by omega), if_pos k1]
    have h' := h
    rw [hw] at h hsz hnext hcut ⊢
    simp only [List.cons_append] at h
    obtain ⟨hp, hb34⟩ := bt_head h
    have hb34 : bt q p = 34 := hb34
    obtain ⟨_, h1⟩ := drop_cons h
    have hE : Esc t.text q (b0 :: R) 0 (p + 1) := by
      unfold Esc
      rw [List.drop_zero, h1, List.append_assoc]
      rfl
    obtain ⟨g1, _⟩ := txt_esc (fr := p) t.text.size 0 (p + 1) [] (by omega) (by omega) hE
    obtain ⟨g1, g2⟩ := g1 k3
    rw [List.nil_append, List.drop_zero] at g1
    simp only [List.length_cons, List.length_append, List.length_nil] at hsz g1 g2 ⊢
    have e : q.size - (R.length + 1) = p + ((esc t.text.data.toList).length + (0 + 1) + 1) := by omega
    refine ⟨⟨2, t.text, 0, p⟩, ?_, ⟨k1, rfl, k2⟩, by rw [hb34]; decide, ?_, hp⟩
    · unfold tok1
      rw [hb34, if_neg (by decide), if_neg (by decide), if_pos rfl, g1]
      simp only
      rw [if_neg (by rw [len_bytes]; omega), ba_self']
      congr 2
      omega
    · rw [bad_step hp, nx_ascii hp (by omega), if_neg (by simp)]
      simp only
      rw [g2, e]
  · have hw : wr t = x :: l := by
      unfold wr
      rw [if_neg (by omega), if_neg (by omega), k4]
    rw [hw] at h hsz hnext hcut ⊢
    have hd : ∀ k, k < (x :: l).length → wordB (bt q (p + k)) = true := fun k hk => by
      obtain ⟨b, hb1, hb2⟩ := bt_mem h hk
      rw [hb2]
      rcases List.mem_cons.1 hb1 with rfl | hb1
      · simp [wordB, k5]
      · exact k6 b hb1
    have hx : bt q p = x.toNat := by
      have := bt_at (k := 0) h
      simpa using this
    have hxd : digitB x.toNat = false ∧ blankB x.toNat = false := by
      simp only [letterB, decide_eq_true_eq] at k5
      simp only [digitB, blankB, decide_eq_false_iff_not]
      omega
    have hasc : ∀ k, k < (x :: l).length → bt q (p + k) < 128 := fun k hk => by
      have := hd k hk
      simp only [wordB, letterB, digitB, Bool.or_eq_true, decide_eq_true_eq] at this
      omega
    have hrun : runTo wordB q p = p + (x :: l).length := runTo_at (by omega) (by omega) (fun k h1 h2 => by have := hd (k - p) (by omega); rwa [show p + (k - p) = k by omega] at this) (fun hh => by rw [hnext, hbl3] at hh; cases hh.2)
    refine ⟨⟨3, t.text, 0, p⟩, ?_, ⟨k1, rfl, k2⟩, by rw [hx]; exact hxd.2, bad_asc _ _ (by omega) hasc, by omega⟩
    unfold tok1
    rw [hx, if_neg (by rw [hxd.1]; decide), if_pos k5, hrun, extract_cut (by omega), hcut, ← k4, ba_self']
  · have hw : wr t = t.text.data.toList := by
      unfold wr
      rw [if_neg (by omega), if_neg (by omega)]
    rw [hw] at h hsz hnext hcut ⊢
    rcases k3 with ⟨x, y, k3, k4⟩ | ⟨x, k3, k4⟩
    · rw [k3] at h hsz hnext hcut ⊢
      simp only [List.length_cons, List.length_nil] at hsz
      have hx : bt q p = x.toNat := by have := bt_at (k := 0) h; simpa using this
      have hy : bt q (p + 1) = y.toNat := by have := bt_at (k := 1) h; simpa using this
      have hs : signL q p = 2 := by
        unfold signL
        rw [hx, hy, if_pos ⟨by omega, k4⟩]
      have hx2 : digitB x.toNat = false ∧ letterB x.toNat = false ∧ x.toNat ≠ 34 ∧ blankB x.toNat = false := by
        simp only [digitB, letterB, blankB, decide_eq_false_iff_not]
        omega
      refine ⟨⟨4, t.text, 0, p⟩, ?_, ⟨k1, rfl, k2⟩, by rw [hx]; exact hx2.2.2.2, bad_asc _ _ (by simp; omega) (fun k hk => ?_), by omega⟩
      · unfold tok1
        rw [hx, hs, if_neg (by rw [hx2.1]; decide), if_neg (by rw [hx2.2.1]; decide), if_neg hx2.2.2.1, if_neg (by decide)]
        rw [show p + [x, y].length = p + 2 from rfl] at hcut ⊢
        rw [extract_cut (by omega), hcut, ← k3, ba_self']
      · simp only [List.length_cons, List.length_nil] at hk
        rcases (show k = 0 ∨ k = 1 by omega) with rfl | rfl
        · rw [Nat.add_zero, hx]; omega
        · rw [hy]; omega
    · rw [k3] at h hsz hnext hcut ⊢
      simp only [List.length_cons, List.length_nil] at hsz hnext
      have hx : bt q p = x.toNat := by have := bt_at (k := 0) h; simpa using this
      have hy : bt q (p + 1) = b0.toNat := hnext
      have hs : signL q p = 1 := by
        unfold signL
        rw [hx, hy, if_neg (by omega), if_pos k4]
      have hx2 : digitB x.toNat = false ∧ letterB x.toNat = false ∧ x.toNat ≠ 34 ∧ blankB x.toNat = false := by
        simp only [digitB, letterB, blankB, decide_eq_false_iff_not]
        omega
      refine ⟨⟨4, t.text, 0, p⟩, ?_, ⟨k1, rfl, k2⟩, by rw [hx]; exact hx2.2.2.2, bad_asc _ _ (by simp; omega) (fun k hk => ?_), by omega⟩
      · unfold tok1
        rw [hx, hs, if_neg (by rw [hx2.1]; decide), if_neg (by rw [hx2.2.1]; decide), if_neg hx2.2.2.1, if_neg (by decide)]
        rw [show p + [x].length = p + 1 from rfl] at hcut ⊢
        rw [extract_cut (by omega), hcut, ← k3, ba_self']
      · simp only [List.length_cons, List.length_nil] at hk
        obtain rfl : k = 0 := by omega
        rw [Nat.add_zero, hx]; omega
theorem toks_blanks {q : ByteArray} : ∀ (n p : Nat), p + n ≤ q.size → (∀ k, k < n → blankB (bt q (p + k)) = true) → runTo blankB q p = runTo blankB q (p + n)
  | 0, _, _, _ => rfl
  | n + 1, p, hn, h => by
    have h0 : blankB (bt q p) = true := h 0 (by omega)
    rw [← runTo_step (p := blankB) (by omega) h0, toks_blanks n (p + 1) (by omega) fun k hk => by have := h (k + 1) (by omega); rwa [show p + 1 + k = p + (k + 1) by omega]]
    rw [show p + 1 + n = p + (n + 1) by omega]
theorem toks_skip {q : ByteArray} {n p : Nat} {l : List Tk} (hn : p + n ≤ q.size) (h : ∀ k, k < n → blankB (bt q (p + k)) = true) (ht : toks q (p + n) [] = .ok l) : toks q p [] = .ok l := by
  have hr := toks_blanks n p hn h
  rcases toks_cons hn ht with ⟨h1, rfl⟩ | ⟨t, j, l', h1, h2, rfl, h3⟩
  · rw [toks, if_pos (by omega)]
  · exact toks_mk (by omega) (by rw [hr]; exact h2) h3
theorem toks_cat {sep : List UInt8} (hne : sep ≠ []) (hsep : ∀ b ∈ sep, blankB b.toNat = true) {q : ByteArray} : ∀ (l : List Tk) {p : Nat}, (∀ t ∈ l, GoodT t) → p ≤ q.size → q.data.toList.drop p = catT sep l →
    ∃ l', toks q p [] = .ok l' ∧ l'.length = l.length ∧ (∀ (k : Nat) (a b : Tk), l[k]? = some a → l'[k]? = some b → likeT a b) ∧ bad q p = -1
  | [], p, _, hp, h => by
    have hps : q.size ≤ p := by
      have := congrArg List.length h
      simp only [List.length_drop, len_bytes, catT, List.flatMap_nil, List.length_nil] at this
      omega
    exact ⟨[], toks_over hps, rfl, (fun k a b h => by simp at h), by rw [bad, if_pos hps]⟩
  | t :: l, p, hg, hp, h => by
    obtain ⟨b0, sp, rfl⟩ : ∃ b0 sp, sep = b0 :: sp := by
      cases sep with
      | nil => exact absurd rfl hne
      | cons a b => exact ⟨a, b, rfl⟩
    have hc : catT (b0 :: sp) (t :: l) = wr t ++ ((b0 :: sp) ++ catT (b0 :: sp) l) := by simp [catT]
    rw [hc] at h
    obtain ⟨t', h1, h2, h3, h4, h5⟩ := tok1_wr (hsep b0 List.mem_cons_self) (hg t List.mem_cons_self) h
    have hd1 := drop_at h
    have hd2 := drop_at hd1
    have hsz := size_at hd1 (by simp)
    simp only [List.length_append] at hsz
    obtain ⟨l', i1, i2, i3, i4⟩ := toks_cat hne hsep l (fun t ht => hg t (List.mem_cons_of_mem _ ht)) (by omega) hd2
    have hbl : ∀ k, k < (b0 :: sp).length → blankB (bt q (p + (wr t).length + k)) = true := fun k hk => by
      obtain ⟨b, hb1, hb2⟩ := bt_mem hd1 hk
      rw [hb2]; exact hsep b hb1
    have i1' := toks_skip (by omega) hbl i1
    have hr : runTo blankB q p = p := runTo_stop (by rw [h3]; simp)
    refine ⟨t' :: l', toks_mk (by omega) (by rw [hr]; exact h1) i1', by simp [i2], ?_, ?_⟩
    · intro k a b ha hb
      cases k with
      | zero =>
        simp only [List.getElem?_cons_zero, Option.some.injEq] at ha hb
        subst ha; subst hb
        exact h2
      | succ k =>
        simp only [List.getElem?_cons_succ] at ha hb
        exact i3 k a b ha hb
    · rw [h4, bad_asc (b0 :: sp).length _ (by omega) (fun k hk => (blank_asc (hbl k hk)).1)]
      exact i4
end Vai
