import Derived.Test.YtlcbhhmnfmeoeaaDoorDL16
set_option linter.unusedSimpArgs false
set_option linter.unusedVariables false
set_option linter.unusedSectionVars false
namespace Vai
open Go
theorem toks_end {s : ByteArray} {i : Nat} {l : List Tk} (h : s.size ≤ i) : toks s i l = .ok l := by
  have := runTo_ge blankB s i
  rw [toks, if_pos (by omega)]
theorem toks_blank {s : ByteArray} {i : Nat} {l : List Tk} (h : i < s.size) (hb : blankB (bt s i) = true) : toks s i l = toks s (i + 1) l := by
  have e := runTo_step (p := blankB) h hb
  rw [toks]
  by_cases h2 : i + 1 < s.size
  · conv => rhs; rw [toks]
    rw [e]
    by_cases h1 : s.size ≤ runTo blankB s i
    · rw [if_pos h1, if_pos h1]
    rw [if_neg h1, if_neg h1]
    cases ht : tok1 s (runTo blankB s i) with
    | error f => rfl
    | ok tj =>
      obtain ⟨t, j⟩ := tj
      have hgt := tok1_gt (by omega) ht
      have hge := runTo_ge blankB s (i + 1)
      simp only
      rw [dif_pos ⟨by omega, h⟩, dif_pos ⟨by omega, h2⟩]
  · have h3 : s.size ≤ runTo blankB s i := by
      have := runTo_ge blankB s (i + 1)
      omega
    rw [if_pos h3, toks_end (by omega)]
theorem toks_step {s : ByteArray} {i : Nat} {l : List Tk} (h : i < s.size) (hb : blankB (bt s i) = false) : toks s i l = match tok1 s i with
    | .error f => .error f
    | .ok (t, j) => toks s j (l ++ [t]) := by
  have e := runTo_stop (p := blankB) (s := s) (i := i) (by rw [hb]; simp)
  rw [toks, e, if_neg (by omega)]
  cases ht : tok1 s i with
  | error f => rfl
  | ok tj =>
    obtain ⟨t, j⟩ := tj
    have hgt := tok1_gt (by omega) ht
    simp only
    rw [dif_pos ⟨by omega, h⟩]
end Vai
namespace Go.Proofs.YtlcbhhmnfmeoeaaDoor
open Vai
set_option maxHeartbeats 0
def RB (h : H) (d : D) (l : List Tk) : Prop := TR h d l ∧ h.marks = [] ∧ 0 < h.next ∧ h.objs 0 = some (flt 0 0)
theorem RB.add {h : H} {d : D} {l : List Tk} (hr : RB h d l) (hlen : l.length ≤ 1000000) (t : Tk) : ∃ d' h', appendD Tryd.prog h 22 d (.t (.slice [t.t])) = some (d', h') ∧ RB h' d' (l ++ [t]) := by
  obtain ⟨h1, h2, h3, h4⟩ := hr
  obtain ⟨d', h', q, r1, r2, r3, r4⟩ := tok_add h1 h2 hlen t
  exact ⟨d', h', q, r1, r3, by omega, r4 0 _ _ h3 h4⟩
theorem l10 {s : ByteArray} (hs : s.size ≤ 100000) {st : St} {r : CR} (hLp : loopω (LB cx prim 10 Tryd.f10 0) st = r) (en : st.n = 140) (e0 : st.env 0 = .t (.str s)) (e3 : st.env 3 = .ptr 0 0 0 1) (e5 : st.env 5 = .t (.int .i64 0)) (eh : RB st.h (st.env 4) []) :
    ∃ x st', r = some (x, st') ∧ st'.n = 140 ∧ st'.env 3 = .ptr 0 0 0 1 ∧ (match toks s 0 [] with
        | .ok l => x = .exit 0 ∧ RB st'.h (st'.env 4) l
        | .error (a, w) => x = .ret ∧ st'.env 2 = .t .nilSlice ∧ st'.h.objs 0 = some (flt a w)) := by
  refine loop_uses hLp (s.size + 1) (fun k st => st.n = 140 ∧ st.env 0 = .t (.str s) ∧ st.env 3 = .ptr 0 0 0 1 ∧ ∃ (l : List Tk) (i : Nat), i ≤ s.size ∧ k ≤ i ∧ l.length ≤ i ∧ st.env 5 = .t (.int .i64 i) ∧ toks s i l = toks s 0 [] ∧ RB st.h (st.env 4) l) _ ⟨en, e0, e3, [], 0, by omega, by omega, by simp, e5, rfl, eh⟩ ?_
  rintro k ⟨nn, env, h2⟩ hk ⟨rfl, e0, e3, l, i, hi, hki, hll, e5, ht, hb⟩
  simp only at e0 e3 e5 hb
  rw [LB_run nd10 rfl]
  rw [← ht]
  clear ht
  by_cases hp : s.size ≤ i
  · rw [toks_end hp]
    have c1 : ¬ (i : Int) < s.size := by omega
    simp -implicitDefEqProofs (disch := omega) [e0, e3, e5, Wp_some]
    exact hb
  obtain ⟨b, hbb, hbt⟩ := bt_get (s := s) (i := i) (by omega)
  have c1 : (i : Int) < s.size := by omega
  have q22 := fun h => c22 (c := 10) b.toNat h rfl
  by_cases hbl : blankB b.toNat = true
  · rw [toks_blank (by omega) (by rw [hbt]; exact hbl)]
    rw [hbl] at q22
    simp -implicitDefEqProofs (disch := omega) [e0, e3, e5, hbb, q22, Wp_some]
    exact ⟨by omega, l, i + 1, by omega, by omega, by omega, by omega, rfl, hb⟩
  have hbl' : blankB b.toNat = false := by simpa using hbl
  rw [toks_step (by omega) (by rw [hbt]; exact hbl')]
  rw [hbl'] at q22
  have q23 := fun h => c23 (c := 10) b.toNat h rfl
  have q24 := fun h => c24 (c := 10) b.toNat h rfl
  have fst := fl_st hb.2.2.2
  unfold tok1
  rw [hbt]
  by_cases hd : digitB b.toNat = true
  · rw [if_pos hd]
    rw [hd] at q23
    have lemL := fun (d v7 : D) (h : H) (st : St) (r : CR) => l10a (d := d) (v7 := v7) (h := h) hs hi (st := st) (r := r)
    simp -implicitDefEqProofs (disch := omega) [-storeD, -load_ptr, -H.els, e0, e3, e5, hbb, q22, q23, Wp_some]
    generalize hLp2 : loopω (LB cx prim 10 Tryd.f10 2) _ = R
    obtain ⟨x', ⟨nn, env2, h3⟩, rfl, rfl, rfl, e0, e3, e4, e5, e7, rfl⟩ := lemL (env 4) (.t (.int .i64 i)) h2 _ _ hLp2 rfl (by simp [e0]) (by simp [e3]) (by simp) (by simp [e5]) (by simp) rfl
    simp only at e0 e3 e4 e5 e7
    have hge := runTo_ge digitB s (i + 1)
    rw [runTo_step (by omega) (by rw [hbt]; exact hd)] at hge
    have hle := runTo_le (p := digitB) (s := s) (i := i) (by omega)
    have hall := cut_all (p := digitB) (s := s) (i := i)
    have hcl := cut_len (i := i) hle
    have hex := extract_cut (s := s) (i := i) (j := runTo digitB s i) (by omega)
    clear hLp2 lemL
    generalize runTo digitB s i = j at hge hle hall hcl hex e5 ⊢
    have hne : cut s i j ≠ [] := fun e => by rw [e] at hcl; simp at hcl; omega
    obtain ⟨n, ok, q15, hn⟩ : ∃ n ok, (∀ h, callD (cx.at 10) (call cx prim) 15 [.t (.str ⟨(cut s i j).toArray⟩)] h = some (.tup [.t (.int .i64 n), .t (.bool ok)], h)) ∧ numS (cut s i j) = if ok = true then some n else none := by
      obtain ⟨n, ok, h', q, e⟩ := s15 hne (by omega) hall
      exact ⟨n, ok, fun h => pureT cb15 rfl q (by simp [snapOut]) rfl, e⟩
    have g2 := sl_str (s := s) (a := i) (b := (j : Int))
    have g3 : ((j : Int)).toNat = j := by omega
    rw [hn]
    cases ok with
    | false =>
      simp -implicitDefEqProofs (disch := omega) [-storeD, -load_ptr, -H.els, e0, e3, e4, e5, e7, g2, hex, q15, fst, Wp_some]
    | true =>
      obtain ⟨d', h', qa, ra⟩ := hb.add (by omega) ⟨1, noText, n, i⟩
      simp only [Tk.t, noText] at qa
      simp -implicitDefEqProofs (disch := omega) [-storeD, -load_ptr, -H.els, e0, e3, e4, e5, e7, g2, hex, q15, fst, Wp_some, litSliceD, List.replicate, qa]
      exact ⟨by omega, l ++ [⟨1, noText, n, i⟩], j, by omega, by omega, by simp; omega, rfl, rfl, ra⟩
  rw [if_neg hd]
  have hd' : digitB b.toNat = false := by simpa using hd
  rw [hd'] at q23
  by_cases hlt : letterB b.toNat = true
  · rw [if_pos hlt]
    rw [hlt] at q24
    have lemL := fun (d v7 : D) (h : H) (st : St) (r : CR) => l10b (d := d) (v7 := v7) (h := h) hs hi (st := st) (r := r)
    simp -implicitDefEqProofs (disch := omega) [-storeD, -load_ptr, -H.els, e0, e3, e5, hbb, q22, q23, q24, Wp_some]
    generalize hLp2 : loopω (LB cx prim 10 Tryd.f10 4) _ = R
    obtain ⟨x', ⟨nn, env2, h3⟩, rfl, rfl, rfl, e0, e3, e4, e5, e7, rfl⟩ := lemL (env 4) (.t (.int .i64 i)) h2 _ _ hLp2 rfl (by simp [e0]) (by simp [e3]) (by simp) (by simp [e5]) (by simp) rfl
    simp only at e0 e3 e4 e5 e7
    have hge := runTo_ge wordB s (i + 1)
    rw [runTo_step (by omega) (by rw [hbt]; simp [wordB, hlt])] at hge
    have hle := runTo_le (p := wordB) (s := s) (i := i) (by omega)
    clear hLp2 lemL
    generalize runTo wordB s i = j at hge hle e5 ⊢
    have g2 := sl_str (s := s) (a := i) (b := (j : Int))
    have g3 : ((j : Int)).toNat = j := by omega
    obtain ⟨d', h', qa, ra⟩ := hb.add (by omega) ⟨3, s.extract i j, 0, i⟩
    simp only [Tk.t] at qa
    simp -implicitDefEqProofs (disch := omega) [-storeD, -load_ptr, -H.els, e0, e3, e4, e5, e7, g2, Wp_some, litSliceD, List.replicate, qa]
    exact ⟨by omega, l ++ [⟨3, s.extract i j, 0, i⟩], j, by omega, by omega, by simp; omega, rfl, rfl, ra⟩
  rw [if_neg hlt]
  have hlt' : letterB b.toNat = false := by simpa using hlt
  rw [hlt'] at q24
  by_cases h34 : b.toNat = 34
  · rw [if_pos h34]
    simp only [h34, show ((34 : Nat) : Int) = 34 from rfl] at q22 q23 q24
    have q25 := fun h => c25 (c := 10) (s := s) (fr := i) h hs (by omega) rfl
    have hK0 : h2.next ≠ 0 := by have := hb.2.2.1; omega
    have hb1 : ∀ a w, RB ((h2.push (flt 0 0)).set h2.next (flt a w)) (env 4) l := fun a w =>
      ⟨(hb.1.push _).setF (a := 0) (w := 0) (by simp), by simpa using hb.2.1, by simp, by simp [hK0.symm, hb.2.2.2]⟩
    have hK : ∀ a w, ((h2.push (flt 0 0)).set h2.next (flt a w)).objs h2.next = some (flt a w) := fun a w => by simp
    have hK' : (h2.push (flt 0 0)).objs h2.next = some (flt 0 0) := by simp
    have hpush : h2.push (.row 27 2 [.t (.agg [.int .i64 0, .int .i64 0])]) = h2.push (flt 0 0) := rfl
    have st1 := fl_st hK'
    have f1 := fun a w => fl_f1 (hK a w)
    have ll1 := fun a w => fl_l1 (hK a w)
    have ld := fun a w => fl_ld (hK a w)
    have fst2 := fun a w => fl_st (hb1 a w).2.2.2
    simp only [rtx, fltT] at q25
    cases htx : txt s i (i + 1) [] with
    | error f =>
      obtain ⟨a, w⟩ := f
      rw [htx] at q25
      simp only at q25 ⊢
      have hw : eqI w 0 = false := eqI_false (txt_err htx)
      simp -implicitDefEqProofs (disch := omega) [-storeD, -load_ptr, -fieldAddrD, -H.els, e0, e3, e5, hbb, h34, q22, q23, q24, q25, hpush, st1, f1, ll1, ld, fst2, hw, Wp_some]
    | ok oe =>
      obtain ⟨o, e⟩ := oe
      rw [htx] at q25
      simp only at q25 ⊢
      by_cases h64 : 64 < o.length
      · rw [if_pos h64] at q25 ⊢
        simp -implicitDefEqProofs (disch := omega) [-storeD, -load_ptr, -fieldAddrD, -H.els, e0, e3, e5, hbb, h34, q22, q23, q24, q25, hpush, st1, f1, ll1, ld, fst2, Wp_some]
      · rw [if_neg h64] at q25 ⊢
        have hte := txt_gt htx
        obtain ⟨d', h', qa, ra⟩ := (hb1 0 0).add (by omega) ⟨2, ⟨o.toArray⟩, 0, i⟩
        simp only [Tk.t] at qa
        simp -implicitDefEqProofs (disch := omega) [-storeD, -load_ptr, -fieldAddrD, -H.els, e0, e3, e5, hbb, h34, q22, q23, q24, q25, hpush, st1, f1, ll1, ld, fst2, Wp_some, litSliceD, List.replicate, qa]
        exact ⟨by omega, l ++ [⟨2, ⟨o.toArray⟩, 0, i⟩], e + 1, by omega, by omega, by simp; omega, by omega, rfl, ra⟩
  · rw [if_neg h34]
    have e34 : eqI (b.toNat : Int) 34 = false := eqI_false (by omega)
    have q26 := fun h => c26 (c := 10) (s := s) (i := i) h (by omega) (by omega) rfl
    have hsl := signL_le (s := s) (i := i) (by omega)
    by_cases h0 : signL s i = 0
    · rw [if_pos h0]
      rw [h0] at q26
      simp -implicitDefEqProofs (disch := omega) [-storeD, -load_ptr, -H.els, e0, e3, e5, hbb, q22, q23, q24, q26, e34, fst, Wp_some]
    · rw [if_neg h0]
      have hs0 : eqI (signL s i : Int) 0 = false := eqI_false (by omega)
      have g2 := sl_str (s := s) (a := i) (b := (i : Int) + signL s i)
      have g3 : ((i : Int) + signL s i).toNat = i + signL s i := by omega
      obtain ⟨d', h', qa, ra⟩ := hb.add (by omega) ⟨4, s.extract i (i + signL s i), 0, i⟩
      simp only [Tk.t] at qa
      simp -implicitDefEqProofs (disch := omega) [-storeD, -load_ptr, -H.els, e0, e3, e5, hbb, q22, q23, q24, q26, e34, hs0, g2, g3, Wp_some, litSliceD, List.replicate, qa]
      exact ⟨by omega, l ++ [⟨4, s.extract i (i + signL s i), 0, i⟩], i + signL s i, by omega, by omega, by simp; omega, by omega, rfl, ra⟩
end Go.Proofs.YtlcbhhmnfmeoeaaDoor
