import Derived.Test.YtlcbhhmnfmeoeaaDoorU4
set_option linter.unusedSimpArgs false
set_option linter.unusedVariables false
set_option linter.unusedSectionVars false
/-
  Runes of texts that agree; texts behind backslashes.
-/
namespace Vai
open Go
/-- Are the runes of a text, from a place on, letters all? -/
def chs (s : ByteArray) (i : Nat) : Bool :=
  if s.size ≤ i then true else if h : (nx s i).2 = 0 ∨ charB (nx s i).1 = false then false else chs s (i + (nx s i).2)
termination_by s.size - i
decreasing_by omega
theorem cont_lt {s : ByteArray} {i : Nat} (h : contB (bt s i) = true) : i < s.size := by
  apply Classical.byContradiction
  intro hn
  have : bt s i = 0 := by
    unfold bt
    rw [Array.getElem?_eq_none (by have : s.data.size = s.size := rfl; omega)]
  rw [this] at h
  simp [contB] at h
theorem cont_ge {c : Nat} (h : contB c = true) : 128 ≤ c ∧ c < 192 := by
  simp only [contB, beq_iff_eq] at h
  omega
theorem nx_congr {s q : ByteArray} {i p : Nat} (hi : i < s.size) (hp : p < q.size) (h0 : bt s i = bt q p)
    (h1 : contB (bt s (i + 1)) = true ∨ contB (bt q (p + 1)) = true → bt s (i + 1) = bt q (p + 1))
    (h2 : 224 ≤ bt s i → contB (bt s (i + 1)) = true → contB (bt s (i + 2)) = true ∨ contB (bt q (p + 2)) = true → bt s (i + 2) = bt q (p + 2))
    (h3 : 240 ≤ bt s i → contB (bt s (i + 1)) = true → contB (bt s (i + 2)) = true → contB (bt s (i + 3)) = true ∨ contB (bt q (p + 3)) = true → bt s (i + 3) = bt q (p + 3)) : nx s i = nx q p := by
  have key : ∀ (x : ByteArray) (k : Nat), (contB (bt x k) = true) → k < x.size := fun x k h => cont_lt h
  unfold nx
  simp only [if_neg (show ¬ s.size ≤ i by omega), if_neg (show ¬ q.size ≤ p by omega)]
  rw [← h0]
  by_cases c1 : bt s i < 128
  · rw [if_pos c1, if_pos c1]
  rw [if_neg c1, if_neg c1]
  by_cases c2 : bt s i < 192
  · rw [if_pos c2, if_pos c2]
  rw [if_neg c2, if_neg c2]
  by_cases k1 : contB (bt s (i + 1)) = true
  · have e1 := h1 (.inl k1)
    have k1' : contB (bt q (p + 1)) = true := by rw [← e1]; exact k1
    have z1 := key _ _ k1
    have z1' := key _ _ k1'
    by_cases c3 : bt s i < 224
    · rw [if_pos c3, if_pos c3, ← e1]
      have : i + 2 ≤ s.size ↔ p + 2 ≤ q.size := by omega
      simp only [this]
    rw [if_neg c3, if_neg c3]
    by_cases k2 : contB (bt s (i + 2)) = true
    · have e2 := h2 (by omega) k1 (.inl k2)
      have k2' : contB (bt q (p + 2)) = true := by rw [← e2]; exact k2
      have z2 := key _ _ k2
      have z2' := key _ _ k2'
      by_cases c4 : bt s i < 240
      · rw [if_pos c4, if_pos c4, ← e1, ← e2]
        have : i + 3 ≤ s.size ↔ p + 3 ≤ q.size := by omega
        simp only [this]
      rw [if_neg c4, if_neg c4]
      by_cases k3 : contB (bt s (i + 3)) = true
      · have e3 := h3 (by omega) k1 k2 (.inl k3)
        have k3' : contB (bt q (p + 3)) = true := by rw [← e3]; exact k3
        have z3 := key _ _ k3
        have z3' := key _ _ k3'
        rw [← e1, ← e2, ← e3]
        have : i + 4 ≤ s.size ↔ p + 4 ≤ q.size := by omega
        simp only [this]
      · have k3' : ¬ contB (bt q (p + 3)) = true := fun h => k3 (by rw [h3 (by omega) k1 k2 (.inr h)]; exact h)
        simp only [k3, k3', false_and, and_false, if_false, Bool.false_eq_true]
    · have k2' : ¬ contB (bt q (p + 2)) = true := fun h => k2 (by rw [h2 (by omega) k1 (.inr h)]; exact h)
      simp only [k2, k2', false_and, and_false, if_false, Bool.false_eq_true]
  · have k1' : ¬ contB (bt q (p + 1)) = true := fun h => k1 (by rw [h1 (.inr h)]; exact h)
    simp only [k1, k1', false_and, and_false, if_false, Bool.false_eq_true]
theorem nx_conts {s : ByteArray} {i : Nat} : (nx s i).2 ≤ 4 ∧ ∀ k, 1 ≤ k → k < (nx s i).2 → contB (bt s (i + k)) = true := by
  unfold nx
  by_cases c0 : s.size ≤ i
  · rw [if_pos c0]; exact ⟨by omega, fun k h1 h2 => by simp only at h2; omega⟩
  rw [if_neg c0]
  simp only
  split
  · exact ⟨by omega, fun k h1 h2 => by simp only at h2; omega⟩
  split
  · exact ⟨by omega, fun k h1 h2 => by simp only at h2; omega⟩
  split
  · split
    · rename_i h
      refine ⟨by omega, fun k h1 h2 => ?_⟩
      simp only at h2
      obtain rfl : k = 1 := by omega
      exact h.2.1
    · exact ⟨by omega, fun k h1 h2 => by simp only at h2; omega⟩
  split
  · split
    · rename_i h
      refine ⟨by omega, fun k h1 h2 => ?_⟩
      simp only at h2
      rcases (show k = 1 ∨ k = 2 by omega) with rfl | rfl
      · exact h.2.1
      · exact h.2.2.1
    · exact ⟨by omega, fun k h1 h2 => by simp only at h2; omega⟩
  split
  · split
    · rename_i h
      refine ⟨by simp, fun k h1 h2 => ?_⟩
      simp only at h2
      rcases (show k = 1 ∨ k = 2 ∨ k = 3 by omega) with rfl | rfl | rfl
      · exact h.2.1
      · exact h.2.2.1
      · exact h.2.2.2.1
    · exact ⟨by omega, fun k h1 h2 => by simp only at h2; omega⟩
  · exact ⟨by omega, fun k h1 h2 => by simp only at h2; omega⟩
theorem bt_drop (s : ByteArray) (i : Nat) : bt s i = ((s.data.toList.drop i).getD 0 0).toNat := by
  rw [List.getD_eq_getElem?_getD, List.getElem?_drop, Nat.add_zero]
  unfold bt
  simp only [Array.getElem?_toList]
  cases s.data[i]? <;> rfl
theorem drop_cons {α : Type} {l : List α} {i : Nat} {x : α} {r : List α} (h : l.drop i = x :: r) : i < l.length ∧ l.drop (i + 1) = r := by
  have h1 : i < l.length := by
    apply Classical.byContradiction
    intro hn
    rw [List.drop_of_length_le (by omega)] at h
    cases h
  rw [List.drop_eq_getElem_cons h1] at h
  exact ⟨h1, (List.cons.inj h).2⟩
theorem len_bytes (s : ByteArray) : s.data.toList.length = s.size := by simp
def escB (b : UInt8) : List UInt8 := if b = 34 ∨ b = 92 then [92, b] else [b]
/-- A text behind backslashes. -/
def esc (l : List UInt8) : List UInt8 := l.flatMap escB
theorem esc_cons (b : UInt8) (l : List UInt8) : esc (b :: l) = escB b ++ esc l := rfl
theorem esc_len (l : List UInt8) : (esc l).length ≤ 2 * l.length := by
  induction l with
  | nil => simp [esc]
  | cons b l ih =>
    rw [esc_cons]
    have : (escB b).length ≤ 2 := by unfold escB; split <;> simp
    simp only [List.length_append, List.length_cons]
    omega
/-- Where a text behind backslashes stands. -/
def Esc (s q : ByteArray) (R : List UInt8) (i p : Nat) : Prop := q.data.toList.drop p = esc (s.data.toList.drop i) ++ 34 :: R
theorem Esc.step {s q : ByteArray} {R : List UInt8} {i p : Nat} (h : Esc s q R i p) (hc : contB (bt s i) = true ∨ contB (bt q p) = true) : bt s i = bt q p ∧ Esc s q R (i + 1) (p + 1) ∧ ∃ x, s.data.toList.drop i = x :: s.data.toList.drop (i + 1) ∧ q.data.toList.drop p = x :: q.data.toList.drop (p + 1) := by
  unfold Esc at h
  rw [bt_drop s i, bt_drop q p] at hc ⊢
  cases hX : s.data.toList.drop i with
  | nil =>
    rw [hX] at h hc
    rw [h] at hc
    simp [esc, contB] at hc
  | cons x X =>
    obtain ⟨_, h2⟩ := drop_cons hX
    rw [hX, esc_cons] at h
    by_cases hx : x = 34 ∨ x = 92
    · exfalso
      have he : escB x = [92, x] := if_pos hx
      rw [he] at h
      rw [hX, h] at hc
      rcases hx with rfl | rfl <;> simp [contB] at hc
    · have he : escB x = [x] := if_neg hx
      rw [he] at h
      simp only [List.cons_append, List.nil_append] at h
      obtain ⟨_, h3⟩ := drop_cons h
      refine ⟨by rw [h]; rfl, ?_, x, by rw [h2], by rw [h, h3]⟩
      unfold Esc
      rw [h3, h2]
theorem cut_succ {s : ByteArray} {i n : Nat} {x : UInt8} (h : s.data.toList.drop i = x :: s.data.toList.drop (i + 1)) : cut s i (i + (n + 1)) = x :: cut s (i + 1) (i + 1 + n) := by
  unfold cut
  rw [h, show i + (n + 1) - i = n + 1 by omega, show i + 1 + n - (i + 1) = n by omega, List.take_succ_cons]
theorem cut_zero (s : ByteArray) (i : Nat) : cut s i (i + 0) = [] := by unfold cut; simp
theorem Esc.steps {s q : ByteArray} {R : List UInt8} : ∀ (n : Nat) {i p : Nat}, Esc s q R i p → (∀ k, k < n → contB (bt s (i + k)) = true) → Esc s q R (i + n) (p + n) ∧ cut s i (i + n) = cut q p (p + n)
  | 0, i, p, h, _ => ⟨h, by rw [cut_zero, cut_zero]⟩
  | n + 1, i, p, h, hc => by
    obtain ⟨_, h2, x, hx1, hx2⟩ := h.step (.inl (hc 0 (by omega)))
    obtain ⟨h3, h4⟩ := Esc.steps n h2 fun k hk => by have := hc (k + 1) (by omega); rwa [show i + 1 + k = i + (k + 1) by omega]
    refine ⟨by rwa [show i + 1 + n = i + (n + 1) by omega, show p + 1 + n = p + (n + 1) by omega] at h3, ?_⟩
    rw [cut_succ hx1, cut_succ hx2, h4]
theorem Esc.high {s q : ByteArray} {R : List UInt8} {i p : Nat} (h : Esc s q R i p) (hi : i < s.size) (h128 : 128 ≤ bt s i) : p < q.size ∧ nx q p = nx s i ∧ (0 < (nx s i).2 → Esc s q R (i + (nx s i).2) (p + (nx s i).2) ∧ cut s i (i + (nx s i).2) = cut q p (p + (nx s i).2)) ∧ bt q p = bt s i := by
  have h' := h
  unfold Esc at h
  obtain ⟨x, X, hX⟩ : ∃ x X, s.data.toList.drop i = x :: X := by
    cases hX : s.data.toList.drop i with
    | nil =>
      have := congrArg List.length hX
      simp at this; omega
    | cons x X => exact ⟨x, X, rfl⟩
  obtain ⟨_, h2⟩ := drop_cons hX
  have hb : bt s i = x.toNat := by rw [bt_drop, hX]; rfl
  rw [hX, esc_cons] at h
  have hx : ¬ (x = 34 ∨ x = 92) := by
    rintro (rfl | rfl)
    · have : (34 : UInt8).toNat = 34 := rfl
      omega
    · have : (92 : UInt8).toNat = 92 := rfl
      omega
  rw [show escB x = [x] from if_neg hx] at h
  simp only [List.cons_append, List.nil_append] at h
  obtain ⟨hp, h3⟩ := drop_cons h
  rw [len_bytes] at hp
  have hq : bt q p = x.toNat := by rw [bt_drop, h]; rfl
  have H1 : Esc s q R (i + 1) (p + 1) := by unfold Esc; rw [h3, h2]
  have hnx : nx s i = nx q p := by
    refine nx_congr hi hp (by rw [hb, hq]) (fun hc => (H1.step hc).1) (fun _ k1 hc => ?_) (fun _ k1 k2 hc => ?_)
    · exact ((H1.step (.inl k1)).2.1.step hc).1
    · exact (((H1.step (.inl k1)).2.1.step (.inl k2)).2.1.step hc).1
  refine ⟨hp, hnx.symm, fun hpos => ?_, by rw [hb, hq]⟩
  have hcs := nx_conts (s := s) (i := i)
  obtain ⟨m, hm⟩ : ∃ m, (nx s i).2 = m + 1 := ⟨(nx s i).2 - 1, by omega⟩
  rw [hm] at hcs ⊢
  obtain ⟨g1, g2⟩ := H1.steps m fun k hk => by have := hcs.2 (k + 1) (by omega) (by omega); rwa [show i + 1 + k = i + (k + 1) by omega]
  refine ⟨by rwa [show i + 1 + m = i + (m + 1) by omega, show p + 1 + m = p + (m + 1) by omega] at g1, ?_⟩
  rw [cut_succ (x := x) (by rw [hX, h2]), cut_succ (x := x) (by rw [h, h3]), g2]
end Vai
