import Derived.Test.YtccajagfgdchlaaR3
import Derived.Test.YtccajagfgdchlaaKb2
set_option linter.unusedSimpArgs false
set_option linter.unusedVariables false
set_option linter.unusedSectionVars false
namespace Go.Proofs.Ytccajagfgdchlaa
open Vai
set_option maxHeartbeats 0
/-! readers, one behind another -/
abbrev RdF (α : Type) := List UInt8 → Nat → Bool → α × Nat × Bool
def Took (l : List UInt8) (p : Nat) (E : List UInt8) (p' : Nat) : Prop := p' = p + E.length ∧ p' ≤ l.length ∧ (l.drop p).take E.length = E
theorem Took.trans {l E F : List UInt8} {p q r : Nat} (a : Took l p E q) (b : Took l q F r) : Took l p (E ++ F) r := by
  obtain ⟨a1, a2, a3⟩ := a
  obtain ⟨b1, b2, b3⟩ := b
  refine ⟨by simp; omega, b2, ?_⟩
  rw [List.length_append, List.take_add, a3, List.drop_drop, ← a1, b3]
structure GoodR {α : Type} (r : RdF α) (enc : α → List UInt8) : Prop where
  inv : ∀ l p, p ≤ l.length → (r l p false).2.2 = false → Took l p (enc (r l p false).1) (r l p false).2.1
  bad : ∀ l p, (r l p true).2.2 = true
  le : ∀ l p b, p ≤ l.length → (r l p b).2.1 ≤ l.length
def seqR {α β : Type} (r : RdF α) (s : RdF β) : RdF (α × β) := fun l p b => (((r l p b).1, (s l (r l p b).2.1 (r l p b).2.2).1), (s l (r l p b).2.1 (r l p b).2.2).2)
theorem GoodR.seq {α β : Type} {r : RdF α} {s : RdF β} {e : α → List UInt8} {f : β → List UInt8} (hr : GoodR r e) (hs : GoodR s f) : GoodR (seqR r s) (fun x => e x.1 ++ f x.2) where
  inv := fun l p hp h => by
    simp only [seqR] at h ⊢
    have hle := hr.le l p false hp
    cases hb : (r l p false).2.2 with
    | true => rw [hb, hs.bad] at h; cases h
    | false =>
      rw [hb] at h
      exact (hr.inv l p hp hb).trans (hs.inv l _ hle h)
  bad := fun l p => by simp only [seqR]; rw [hr.bad, hs.bad]
  le := fun l p b hp => by simp only [seqR]; exact hs.le l _ _ (hr.le l p b hp)
theorem val_inj : ∀ (k : Nat) (a b : List UInt8), a.length = k → b.length = k → val a = val b → a = b
  | 0, a, b, ha, hb, _ => by rw [List.length_eq_zero_iff.1 ha, List.length_eq_zero_iff.1 hb]
  | k + 1, a, b, ha, hb, h => by
    have hna : a ≠ [] := fun e => by subst e; simp at ha
    have hnb : b ≠ [] := fun e => by subst e; simp at hb
    obtain ⟨a', x, rfl⟩ : ∃ i c, a = i ++ [c] := ⟨a.dropLast, a.getLast hna, (List.dropLast_concat_getLast hna).symm⟩
    obtain ⟨b', y, rfl⟩ : ∃ i c, b = i ++ [c] := ⟨b.dropLast, b.getLast hnb, (List.dropLast_concat_getLast hnb).symm⟩
    rw [val_snoc, val_snoc] at h
    have h1 := x.toNat_lt
    have h2 := y.toNat_lt
    have e1 : val a' = val b' := by omega
    have e2 : x = y := UInt8.toNat_inj.1 (by omega)
    rw [val_inj k a' b' (by simpa using ha) (by simpa using hb) e1, e2]
theorem be8_val {xs : List UInt8} (h : xs.length = 8) : be8 (IntKind.i64.wrap (val xs)) = xs := by
  have hlt := val_lt xs
  rw [h] at hlt
  have e8 : (256 : Nat) ^ 8 = 18446744073709551616 := by decide
  rw [e8] at hlt
  have hd := dig_val (IntKind.i64.wrap (val xs)) 8 (by omega)
  have e0 : (2 : Int) ^ (64 - 8 * 8 : Nat) = 1 := by decide
  rw [e0, Int.fdiv_one] at hd
  refine val_inj 8 _ _ (bek_len _ _) h ?_
  have e : (2 : Int) ^ (64 : Nat) = 18446744073709551616 := by decide
  have e' : (2 : Int) ^ (64 - 1 : Nat) = 9223372036854775808 := by decide
  have hw : IntKind.u64.wrap (IntKind.i64.wrap (val xs)) = val xs := by
    simp only [IntKind.wrap, IntKind.bits, show IntKind.i64.signed = true from rfl, show IntKind.u64.signed = false from rfl, Bool.true_and, Bool.false_and, decide_eq_true_eq, Bool.false_eq_true, if_false, e, e']
    split <;> omega
  rw [hw] at hd
  exact Int.ofNat_inj.1 hd
theorem intR_good : GoodR intR (fun n => be8 n) where
  inv := fun l p hp h => by
    unfold intR at h ⊢
    split at h
    · cases h
    · rename_i hn
      rw [if_neg hn]
      have hlen : ((l.drop p).take 8).length = 8 := by simp; omega
      refine ⟨by simp [bek_len], by simp; omega, ?_⟩
      simp only
      rw [be8_val hlen, hlen]
  bad := fun l p => by unfold intR; simp
  le := fun l p b hp => (intR_bd l p b hp).2.2
theorem takeR_le (l : List UInt8) (p : Nat) (b : Bool) (n : Int) (hp : p ≤ l.length) : (takeR l p b n).2.1 ≤ l.length := by
  unfold takeR; split
  · exact hp
  · simp only; omega
theorem textR_good : GoodR textR (fun s => be8 s.length ++ s) where
  inv := fun l p hp h => by
    unfold textR at h ⊢
    have hle := intR_good.le l p false hp
    cases hb : (intR l p false).2.2 with
    | true =>
      rw [hb] at h
      unfold takeR at h
      rw [if_pos (.inl rfl)] at h
      cases h
    | false =>
      rw [hb] at h
      have hi := intR_good.inv l p hp hb
      unfold takeR at h ⊢
      split at h
      · cases h
      · rename_i hn
        rw [if_neg hn]
        have hlen : ((l.drop (intR l p false).2.1).take (intR l p false).1.toNat).length = (intR l p false).1.toNat := by simp; omega
        have e : (((l.drop (intR l p false).2.1).take (intR l p false).1.toNat).length : Int) = (intR l p false).1 := by omega
        simp only
        rw [e]
        exact hi.trans ⟨by rw [hlen], by omega, by rw [hlen]⟩
  bad := fun l p => by
    unfold textR takeR
    rw [if_pos (.inl (intR_good.bad l p))]
  le := fun l p b hp => by
    unfold textR
    exact takeR_le _ _ _ _ (intR_good.le l p b hp)
theorem boolR_good : GoodR boolR (fun b => [if b then (1 : UInt8) else 0]) where
  inv := fun l p hp h => by
    unfold boolR at h ⊢
    split at h
    · cases h
    · rename_i hn
      rw [if_neg hn]
      simp only [decide_eq_false_iff_not] at h
      have hlt : p < l.length := by omega
      have hg : l.getD p 0 = l[p] := by rw [List.getD_eq_getElem?_getD, List.getElem?_eq_getElem hlt]; rfl
      rw [hg] at h ⊢
      refine ⟨by simp, by simp; omega, ?_⟩
      rw [List.drop_eq_getElem_cons hlt]
      simp only [List.length_singleton, List.take_succ_cons, List.take_zero, List.cons.injEq, and_true]
      by_cases h1 : (l[p]).toNat = 1
      · have : l[p] = 1 := UInt8.toNat_inj.1 h1
        rw [this]; rfl
      · have : l[p] = 0 := UInt8.toNat_inj.1 (by have : (0 : UInt8).toNat = 0 := rfl; omega)
        rw [this]; rfl
  bad := fun l p => by unfold boolR; simp
  le := fun l p b hp => by unfold boolR; split; exact hp; simp only; omega
abbrev VR4 := ByteArray × Int × Int × ByteArray
def varR : RdF (List UInt8 × Int × Int × List UInt8) := seqR textR (seqR intR (seqR intR textR))
def toV (x : List UInt8 × Int × Int × List UInt8) : VR4 := (⟨x.1.toArray⟩, x.2.1, x.2.2.1, ⟨x.2.2.2.toArray⟩)
theorem varR_good : GoodR varR (fun x => encV (toV x)) := by
  have h := textR_good.seq (intR_good.seq (intR_good.seq textR_good))
  have e : (fun x : List UInt8 × Int × Int × List UInt8 => (be8 x.1.length ++ x.1) ++ ((be8 x.2.1) ++ ((be8 x.2.2.1) ++ (be8 x.2.2.2.length ++ x.2.2.2)))) = fun x => encV (toV x) := by
    funext x
    simp [encV, toV, ByteArray.size]
  rw [e] at h
  exact h
def varsR (l : List UInt8) : Nat → Nat → Bool → List VR4 × Nat × Bool
  | 0, p, b => ([], p, b)
  | n + 1, p, b => (toV (varR l p b).1 :: (varsR l n (varR l p b).2.1 (varR l p b).2.2).1, (varsR l n (varR l p b).2.1 (varR l p b).2.2).2)
def varsQ (l : List UInt8) : Nat → Nat → Bool → List VR4 × Nat × Bool
  | 0, p, b => ([], p, b)
  | n + 1, p, b => if b = true then ([], p, b) else (toV (varR l p b).1 :: (varsQ l n (varR l p b).2.1 (varR l p b).2.2).1, (varsQ l n (varR l p b).2.1 (varR l p b).2.2).2)
theorem varsR_bad (l : List UInt8) : ∀ n p, (varsR l n p true).2.2 = true
  | 0, _ => rfl
  | n + 1, p => by simp only [varsR]; rw [varR_good.bad]; exact varsR_bad l n _
theorem varsQ_bad (l : List UInt8) : ∀ n p, (varsQ l n p true).2.2 = true
  | 0, _ => rfl
  | n + 1, p => by simp [varsQ]
theorem varsQ_eq (l : List UInt8) : ∀ n p b, ((varsQ l n p b).2.2 = false ∨ (varsR l n p b).2.2 = false) → varsQ l n p b = varsR l n p b
  | 0, _, _, _ => rfl
  | n + 1, p, b, h => by
    cases b with
    | true => rw [varsQ_bad, varsR_bad] at h; simp at h
    | false =>
      simp only [varsQ, varsR, Bool.false_eq_true, if_false] at h ⊢
      rw [varsQ_eq l n _ _ h]
theorem varsR_inv (l : List UInt8) : ∀ n p, p ≤ l.length → (varsR l n p false).2.2 = false → Took l p (encVs (varsR l n p false).1) (varsR l n p false).2.1 ∧ (varsR l n p false).1.length = n ∧ p + 32 * n ≤ (varsR l n p false).2.1
  | 0, p, hp, _ => ⟨⟨by simp [varsR, encVs], hp, by simp [varsR, encVs]⟩, rfl, by simp [varsR]⟩
  | n + 1, p, hp, h => by
    simp only [varsR] at h ⊢
    have hle := varR_good.le l p false hp
    cases hb : (varR l p false).2.2 with
    | true => rw [hb, varsR_bad] at h; cases h
    | false =>
      rw [hb] at h
      have h1 := varR_good.inv l p hp hb
      obtain ⟨h2, h3, h4⟩ := varsR_inv l n _ hle h
      have h5 : 32 ≤ (encV (toV (varR l p false).1)).length := by simp only [encV, List.length_append, bek_len]; omega
      have h6 := h1.1
      refine ⟨?_, by simp [h3], by omega⟩
      have := h1.trans h2
      simpa [encVs] using this
theorem varsR_le (l : List UInt8) : ∀ n p b, p ≤ l.length → (varsR l n p b).2.1 ≤ l.length
  | 0, _, _, hp => hp
  | n + 1, p, b, hp => varsR_le l n _ _ (varR_good.le l p b hp)
end Go.Proofs.Ytccajagfgdchlaa
