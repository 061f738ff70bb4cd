import Derived.Test.YtccajagfgdchlaaKb3
set_option linter.unusedSimpArgs false
set_option linter.unusedVariables false
set_option linter.unusedSectionVars false
namespace Go.Proofs.Ytccajagfgdchlaa
open Vai
set_option maxHeartbeats 0
abbrev Hd := Int × Int × List UInt8 × Bool × Int × Int × Int × Int
def hdrF : RdF Hd := seqR intR (seqR intR (seqR textR (seqR boolR (seqR intR (seqR intR (seqR intR intR))))))
def encH (x : Hd) : List UInt8 := be8 x.1 ++ (be8 x.2.1 ++ ((be8 x.2.2.1.length ++ x.2.2.1) ++ ([if x.2.2.2.1 then (1 : UInt8) else 0] ++ (be8 x.2.2.2.2.1 ++ (be8 x.2.2.2.2.2.1 ++ (be8 x.2.2.2.2.2.2.1 ++ be8 x.2.2.2.2.2.2.2))))))
theorem hdrF_good : GoodR hdrF encH := intR_good.seq (intR_good.seq (textR_good.seq (boolR_good.seq (intR_good.seq (intR_good.seq (intR_good.seq intR_good))))))
def decP (l : List UInt8) : Option (Hd × List VR4) :=
  let h := hdrF l 0 false
  let c := countR l h.2.1 h.2.2 32
  let v := varsR l c.1.toNat c.2.1 c.2.2
  if doneR l v.2.1 v.2.2 = true then some (h.1, v.1) else none
def decQ (l : List UInt8) : Option (Hd × List VR4) :=
  let h := hdrF l 0 false
  let c := countR l h.2.1 h.2.2 1
  let v := varsQ l c.1.toNat c.2.1 c.2.2
  if doneR l v.2.1 v.2.2 = true then some (h.1, v.1) else none
theorem doneR_bad (l : List UInt8) (p : Nat) : doneR l p true = false := rfl
theorem countR_bad (l : List UInt8) (p : Nat) (least : Int) : countR l p true least = (0, (intR l p true).2.1, true) := by
  unfold countR
  rw [if_pos (.inl (intR_good.bad l p))]
theorem countR_cases {l : List UInt8} {p : Nat} (hp : p ≤ l.length) {least : Nat} (hl : 1 ≤ least) : (∃ q, countR l p false least = (0, q, true)) ∨ ∃ n : Nat, countR l p false least = intR l p false ∧ intR l p false = ((n : Int), p + 8, false) ∧ p + 8 + least * n ≤ l.length := by
  unfold countR
  by_cases h : (intR l p false).2.2 = true ∨ (intR l p false).1 < 0 ∨ (leftR l (intR l p false).2.1 (intR l p false).2.2).tdiv (if (least : Int) < 1 then 1 else least) < (intR l p false).1
  · rw [if_pos h]
    exact .inl ⟨_, rfl⟩
  · rw [if_neg h]
    simp only [not_or] at h
    obtain ⟨h1, h2, h3⟩ := h
    have hb : (intR l p false).2.2 = false := by simpa using h1
    have ht := intR_good.inv l p hp hb
    have hq : (intR l p false).2.1 = p + 8 := by rw [ht.1, bek_len]
    have hle := ht.2.1
    rw [hq] at hle
    obtain ⟨n, hn⟩ : ∃ n : Nat, (intR l p false).1 = n := ⟨(intR l p false).1.toNat, by omega⟩
    refine .inr ⟨n, rfl, ?_, ?_⟩
    · exact Prod.ext hn (Prod.ext hq hb)
    · rw [hb, hq, hn, if_neg (by omega)] at h3
      simp only [leftR, Bool.false_eq_true, if_false] at h3
      rw [Int.tdiv_eq_ediv_of_nonneg (by omega)] at h3
      have h4 : (n : Int) ≤ ((l.length : Int) - ((p + 8 : Nat) : Int)) / (least : Int) := by omega
      rw [Int.le_ediv_iff_mul_le (by omega)] at h4
      have h5 : ((least * n : Nat) : Int) = (n : Int) * (least : Int) := by rw [Int.natCast_mul, Int.mul_comm]
      omega
theorem countR_mono {l : List UInt8} {p : Nat} (hp : p ≤ l.length) {n : Nat} (h : countR l p false 32 = ((n : Int), p + 8, false)) : countR l p false 1 = countR l p false 32 := by
  unfold countR at h ⊢
  by_cases h1 : (intR l p false).2.2 = true ∨ (intR l p false).1 < 0 ∨ (leftR l (intR l p false).2.1 (intR l p false).2.2).tdiv (if (32 : Int) < 1 then 1 else 32) < (intR l p false).1
  · rw [if_pos h1] at h
    simp at h
  · rw [if_neg h1, if_neg]
    simp only [not_or] at h1 ⊢
    refine ⟨h1.1, h1.2.1, ?_⟩
    have hl := leftR_bd (l := l) (p := (intR l p false).2.1) (bad := (intR l p false).2.2) (intR_good.le l p false hp)
    have h3 := h1.2.2
    rw [if_neg (by omega), Int.tdiv_eq_ediv_of_nonneg hl.1] at h3
    rw [if_neg (by omega), Int.tdiv_eq_ediv_of_nonneg hl.1, Int.ediv_one]
    have := Int.ediv_le_self 32 hl.1
    omega
theorem dec_eq (l : List UInt8) : decQ l = decP l := by
  unfold decQ decP
  simp only
  have hle := hdrF_good.le l 0 false (Nat.zero_le _)
  generalize hdrF l 0 false = h at *
  obtain ⟨x, p, b⟩ := h
  simp only at hle ⊢
  cases b with
  | true => rw [countR_bad, countR_bad]; rfl
  | false =>
    rcases countR_cases hle (least := 1) (by omega) with ⟨q, e1⟩ | ⟨n, e1, e2, e3⟩
    · rcases countR_cases hle (least := 32) (by omega) with ⟨q', e4⟩ | ⟨n, e4, e5, e6⟩
      · have e1' : countR l p false 1 = (0, q, true) := e1
        have e4' : countR l p false 32 = (0, q', true) := e4
        rw [e1', e4']; rfl
      · have e4' : countR l p false 32 = ((n : Int), p + 8, false) := e4.trans e5
        have := countR_mono hle e4'
        rw [this, e4']
        simp only [Int.toNat_natCast]
        by_cases hb : (varsR l n (p + 8) false).2.2 = false
        · rw [varsQ_eq l n _ _ (.inr hb)]
        · by_cases hb2 : (varsQ l n (p + 8) false).2.2 = false
          · rw [varsQ_eq l n _ _ (.inl hb2)]
          · simp only [Bool.not_eq_false] at hb hb2
            rw [hb, hb2, doneR_bad, doneR_bad]
            rfl
    · have e1' : countR l p false 1 = ((n : Int), p + 8, false) := e1.trans e2
      rcases countR_cases hle (least := 32) (by omega) with ⟨q', e4⟩ | ⟨n', e4, e5, e6⟩
      · have e4' : countR l p false 32 = (0, q', true) := e4
        rw [e1', e4']
        simp only [Int.toNat_natCast, Int.toNat_zero, varsR, doneR_bad]
        by_cases hb2 : (varsQ l n (p + 8) false).2.2 = false
        · have hr := varsQ_eq l n (p + 8) false (.inl hb2)
          rw [hr] at hb2
          obtain ⟨h1, h2, h3⟩ := varsR_inv l n (p + 8) (by omega) hb2
          have h4 := h1.2.1
          exfalso
          have : countR l p false 32 = intR l p false := by
            unfold countR
            rw [if_neg]
            rw [e2]
            simp only [leftR, not_or]
            refine ⟨by simp, by omega, ?_⟩
            simp only [Bool.false_eq_true, if_false]
            rw [if_neg (by omega), Int.tdiv_eq_ediv_of_nonneg (by omega)]
            omega
          rw [e4', e2] at this
          simp at this
        · simp only [Bool.not_eq_false] at hb2
          rw [hb2, doneR_bad]
          rfl
      · have e4' : countR l p false 32 = ((n' : Int), p + 8, false) := e4.trans e5
        have hm := countR_mono hle e4'
        rw [e1'] at hm
        rw [e1', ← hm]
        simp only [Int.toNat_natCast]
        by_cases hb : (varsR l n (p + 8) false).2.2 = false
        · rw [varsQ_eq l n _ _ (.inr hb)]
        · by_cases hb2 : (varsQ l n (p + 8) false).2.2 = false
          · rw [varsQ_eq l n _ _ (.inl hb2)]
          · simp only [Bool.not_eq_false] at hb hb2
            rw [hb, hb2, doneR_bad, doneR_bad]
            rfl
theorem decP_inv {l : List UInt8} {x : Hd} {vs : List VR4} (h : decP l = some (x, vs)) : l = encH x ++ be8 vs.length ++ encVs vs ∧ 32 * vs.length ≤ l.length := by
  unfold decP at h
  simp only at h
  have hle := hdrF_good.le l 0 false (Nat.zero_le _)
  split at h
  · rename_i hd
    simp only [Option.some.injEq, Prod.mk.injEq] at h
    obtain ⟨rfl, rfl⟩ := h
    simp only [doneR, Bool.and_eq_true, Bool.not_eq_true', decide_eq_true_eq] at hd
    obtain ⟨hd1, hd2⟩ := hd
    cases hb : (hdrF l 0 false).2.2 with
    | true => rw [hb, countR_bad, varsR_bad] at hd1; cases hd1
    | false =>
      rw [hb] at hd1 hd2
      have h1 := hdrF_good.inv l 0 (Nat.zero_le _) hb
      rcases countR_cases hle (least := 32) (by omega) with ⟨q', e4⟩ | ⟨n, e4, e5, e6⟩
      · have e4' : countR l (hdrF l 0 false).2.1 false 32 = (0, q', true) := e4
        rw [e4', varsR_bad] at hd1; cases hd1
      · have e4' : countR l (hdrF l 0 false).2.1 false 32 = ((n : Int), (hdrF l 0 false).2.1 + 8, false) := e4.trans e5
        rw [e4'] at hd1 hd2 ⊢
        simp only [Int.toNat_natCast] at hd1 hd2 ⊢
        have hi := intR_good.inv l _ hle (by rw [e5])
        rw [e5] at hi
        simp only at hi
        obtain ⟨k1, k2, k3⟩ := varsR_inv l n _ (by omega) hd1
        have ht := (h1.trans hi).trans k1
        obtain ⟨t1, t2, t3⟩ := ht
        rw [hd2] at t1 k3
        rw [List.drop_zero, List.take_of_length_le (by omega)] at t3
        exact ⟨by rw [k2]; exact t3, by rw [k2]; omega⟩
  · cases h
/-! what is written is read -/
def ReadsR {α : Type} (r : RdF α) (enc : α → List UInt8) (dom : α → Prop) : Prop := ∀ A R a, dom a → r (A ++ (enc a ++ R)) A.length false = (a, A.length + (enc a).length, false)
theorem ReadsR.seq {α β : Type} {r : RdF α} {s : RdF β} {e : α → List UInt8} {f : β → List UInt8} {p : α → Prop} {q : β → Prop} (hr : ReadsR r e p) (hs : ReadsR s f q) : ReadsR (seqR r s) (fun x => e x.1 ++ f x.2) (fun x => p x.1 ∧ q x.2) := by
  intro A R a ha
  obtain ⟨a, b⟩ := a
  have h1 := hr A (f b ++ R) a ha.1
  have h2 := hs (A ++ e a) R b ha.2
  simp only [seqR]
  rw [List.append_assoc, h1]
  simp only
  rw [List.append_assoc, List.length_append] at h2
  rw [h2]
  simp only [List.length_append, Nat.add_assoc]
def inR (n : Int) : Prop := -9223372036854775808 ≤ n ∧ n ≤ 9223372036854775807
theorem intR_reads : ReadsR intR (fun n => be8 n) inR := fun A R n h => by
  rw [intR_enc A R n h.1 h.2, bek_len]
theorem textR_reads : ReadsR textR (fun s => be8 s.length ++ s) (fun s => s.length ≤ 2000000) := fun A R s h => by
  have := textR_enc A R ⟨s.toArray⟩ (by simpa [ByteArray.size] using h)
  have e : (⟨s.toArray⟩ : ByteArray).size = s.length := by simp [ByteArray.size]
  rw [e] at this
  rw [List.append_assoc]
  rw [this, List.length_append, bek_len]
  simp only [Prod.mk.injEq, true_and, and_true]
  omega
theorem boolR_reads : ReadsR boolR (fun b => [if b then (1 : UInt8) else 0]) (fun _ => True) := fun A R b _ => boolR_enc A R b
theorem hdrF_reads : ReadsR hdrF encH (fun x => inR x.1 ∧ inR x.2.1 ∧ x.2.2.1.length ≤ 2000000 ∧ True ∧ inR x.2.2.2.2.1 ∧ inR x.2.2.2.2.2.1 ∧ inR x.2.2.2.2.2.2.1 ∧ inR x.2.2.2.2.2.2.2) :=
  intR_reads.seq (intR_reads.seq (textR_reads.seq (boolR_reads.seq (intR_reads.seq (intR_reads.seq (intR_reads.seq intR_reads))))))
def okV (v : VR4) : Prop := v.1.size ≤ 2000000 ∧ inR v.2.1 ∧ inR v.2.2.1 ∧ v.2.2.2.size ≤ 2000000
theorem varR_enc (A R : List UInt8) (v : VR4) (h : okV v) : ∃ x, varR (A ++ (encV v ++ R)) A.length false = (x, A.length + (encV v).length, false) ∧ toV x = v := by
  have hr := textR_reads.seq (intR_reads.seq (intR_reads.seq textR_reads))
  have := hr A R (v.1.data.toList, v.2.1, v.2.2.1, v.2.2.2.data.toList) ⟨by simpa using h.1, h.2.1, h.2.2.1, by simpa using h.2.2.2⟩
  have e : (be8 (v.1.data.toList.length : Int) ++ v.1.data.toList) ++ (be8 v.2.1 ++ (be8 v.2.2.1 ++ (be8 (v.2.2.2.data.toList.length : Int) ++ v.2.2.2.data.toList))) = encV v := by
    have e1 : v.1.data.toList.length = v.1.size := by simp
    have e2 : v.2.2.2.data.toList.length = v.2.2.2.size := by simp
    rw [e1, e2]
    simp only [encV, List.append_assoc]
  simp only at this
  rw [e] at this
  refine ⟨_, this, ?_⟩
  simp only [toV, ba_self]
theorem varsR_enc : ∀ (vs : List VR4) (A R : List UInt8), (∀ v ∈ vs, okV v) → varsR (A ++ (encVs vs ++ R)) vs.length A.length false = (vs, A.length + (encVs vs).length, false)
  | [], A, R, _ => by simp [varsR, encVs]
  | v :: vs, A, R, h => by
    have e : encVs (v :: vs) = encV v ++ encVs vs := by simp [encVs]
    obtain ⟨x, h1, h2⟩ := varR_enc A (encVs vs ++ R) v (h v List.mem_cons_self)
    have h3 := varsR_enc vs (A ++ encV v) R fun v hv => h v (List.mem_cons_of_mem _ hv)
    rw [List.append_assoc, List.length_append] at h3
    rw [e, List.append_assoc, List.length_cons]
    simp only [varsR]
    rw [h1]
    simp only
    rw [h3, h2, List.length_append, Nat.add_assoc]
theorem encVs_ge : ∀ (vs : List VR4), 32 * vs.length ≤ (encVs vs).length
  | [] => by simp [encVs]
  | v :: vs => by
    have e : encVs (v :: vs) = encV v ++ encVs vs := by simp [encVs]
    have h1 := encVs_ge vs
    have h2 : 32 ≤ (encV v).length := by simp only [encV, List.length_append, bek_len]; omega
    rw [e, List.length_append, List.length_cons]
    omega
theorem decP_enc {x : Hd} {vs : List VR4} (hx : inR x.1 ∧ inR x.2.1 ∧ x.2.2.1.length ≤ 2000000 ∧ True ∧ inR x.2.2.2.2.1 ∧ inR x.2.2.2.2.2.1 ∧ inR x.2.2.2.2.2.2.1 ∧ inR x.2.2.2.2.2.2.2) (hv : ∀ v ∈ vs, okV v) (hn : vs.length ≤ 4000000) : decP (encH x ++ be8 vs.length ++ encVs vs) = some (x, vs) := by
  have h1 := hdrF_reads [] (be8 vs.length ++ encVs vs) x hx
  have h2 := intR_reads (encH x) (encVs vs) vs.length (by constructor <;> omega)
  have h3 := varsR_enc vs (encH x ++ be8 vs.length) [] hv
  have hge := encVs_ge vs
  simp only [List.nil_append, List.length_nil, Nat.zero_add, List.append_nil] at h1 h3
  rw [List.append_assoc] at h3
  rw [List.append_assoc]
  generalize hl : encH x ++ (be8 vs.length ++ encVs vs) = l at *
  have hlen : l.length = (encH x).length + (8 + (encVs vs).length) := by rw [← hl]; simp [bek_len]
  simp only [bek_len] at h2
  have hc : countR l (encH x).length false 32 = ((vs.length : Int), (encH x).length + 8, false) := by
    unfold countR
    rw [if_neg]
    · exact h2
    · rw [h2]
      simp only [leftR, not_or]
      refine ⟨by simp, by omega, ?_⟩
      simp only [Bool.false_eq_true, if_false]
      rw [if_neg (by omega), Int.tdiv_eq_ediv_of_nonneg (by omega)]
      omega
  unfold decP
  simp only [h1, hc, Int.toNat_natCast]
  simp only [List.length_append, bek_len] at h3
  rw [h3]
  simp only [doneR]
  exact if_pos (by simp; omega)
end Go.Proofs.Ytccajagfgdchlaa
