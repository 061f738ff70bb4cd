import Derived.Test.YtlcbhhmnfmeoeaaDoorDL5
set_option linter.unusedSimpArgs false
set_option linter.unusedVariables false
set_option linter.unusedSectionVars false
namespace Go.Proofs.YtlcbhhmnfmeoeaaDoor
open Vai
set_option maxHeartbeats 0
theorem len_new {b : H} {out : List UInt8} : lenD Tryd.prog (nrow 5 1 (ub out) b).2 40 (nrow 5 1 (ub out) b).1 = some (.t (.int .i64 out.length)) := by
  unfold nrow
  split
  · rename_i e
    have : out = [] := by cases out with
      | nil => rfl
      | cons x l => simp [ub] at e
    subst this
    simp [lenD]
  · simp [lenD, ub_len]
theorem conv_new {b : H} {out : List UInt8} : convD Tryd.prog (nrow 5 1 (ub out) b).2 40 9 (nrow 5 1 (ub out) b).1 = some (.t (.str ⟨out.toArray⟩)) := by
  have h1 := snap_new (h := b) (bt := 5) (s := 1) (xs := ub out)
  have hs : sl (ub out) = .nilSlice ∧ out = [] ∨ sl (ub out) = .slice (ub out) := by
    cases out with
    | nil => exact .inl ⟨rfl, rfl⟩
    | cons x l => exact .inr (sl_cons (by simp [ub]))
  have hd : (nrow 5 1 (ub out) b).1 = .t .nilSlice ∨ ∃ a c e f, (nrow 5 1 (ub out) b).1 = .row a c e f := by
    unfold nrow; split
    · exact .inl rfl
    · exact .inr ⟨_, _, _, _, rfl⟩
  have key : ∀ (hh : H) (d : D), (d = .t .nilSlice ∨ ∃ a c e f, d = .row a c e f) → snap hh d = some (sl (ub out)) → convD Tryd.prog hh 40 9 d = some (.t (.str ⟨out.toArray⟩)) := by
    intro hh d hd hsn
    rcases hd with rfl | ⟨a, c, e, f, rfl⟩ <;> unfold convD <;> simp only [tk40, tk9, hsn] <;> rcases hs with ⟨e, rfl⟩ | e
    · rw [e]; simp
    · rw [e]; simp [byteOf_ub]
    · rw [e]; simp
    · rw [e]; simp [byteOf_ub]
  exact key _ _ hd h1
theorem LX.nrow {n : Nat} {h : H} {L : Nat} {s : ByteArray} {i : Nat} {ts : List T} (hl : LX n h L s i ts) (xs : List T) : LX n (Vai.nrow 5 1 xs h).2 L s i ts ∧ Fr n h (Vai.nrow 5 1 xs h).2 := by
  unfold Vai.nrow
  split
  · exact ⟨hl, Fr.refl _ _⟩
  · exact hl.push _
theorem s35 {n : Nat} {h : H} {L : Nat} {s : ByteArray} {i : Nat} {ts : List T} (hl : LX n h L s i ts) (hlen : ts.length ≤ 1000000) (hs : s.size ≤ 100000) (hi : i < s.size) :
    Steps n h L s ts (call cx prim 35 [.ptr L 0 0 1] h) (match txt s i (i + 1) [] with
      | .ok (out, e) => if 64 < out.length then .error (i, 3) else .ok (⟨2, ⟨out.toArray⟩, 0, i⟩, e + 1)
      | .error f => .error f) := by
  rw [call_run rfl Tryd.func35 ok35 nd35 rfl (Nat.le_of_ble_eq_true rfl) rfl rfl]
  obtain ⟨d, ho, _, _⟩ := hl.move i
  have hmv : ∀ j : Nat, LX n (h.set L (lxO s j d)) L s j ts ∧ Fr n h (h.set L (lxO s j d)) := fun j => by
    obtain ⟨d', ho', a, b⟩ := hl.move j
    rw [ho] at ho'
    have e : lxO s i d = lxO s i d' := Option.some.inj ho'
    have e2 : d = d' := by
      simp only [lxO, AObj.row.injEq, List.cons.injEq, true_and, and_true] at e
      have := congrArg D.cells e
      rw [mkAgg_cells, mkAgg_cells] at this
      simpa using this
    rw [e2]
    exact ⟨a, b⟩
  have hL : L < h.next := hl.2.1
  have hst := lx_set ho (i + 1 : Int)
  have lemL := fun (st : St) (r : CR) => l35 (h := h) (L := L) (s := s) (fr := i) (d := d) (st := st) (r := r) hL hs hi
  simp -implicitDefEqProofs (disch := omega) [-storeD, -load_ptr, -nilCheckD, -fieldAddrD, -H.els, lx_s ho, lx_at ho, lx_nil ho, lx_f0 ho, lx_f1 ho, hst]
  generalize hLp : loopω _ _ = R
  obtain ⟨x, ⟨nn, env, h2⟩, rfl, rfl, out, j, rfl, hm⟩ := lemL _ _ hLp rfl (by simp) (by simp) (by simp) (by simp)
  cases htx : txt s i (i + 1) [] with
  | error f =>
    obtain ⟨a, w⟩ := f
    rw [htx] at hm
    simp only at hm ⊢
    obtain ⟨_, f1⟩ := (hmv j).1.nrow (ub out)
    have f2 := (hmv j).2.trans f1
    rcases hm with ⟨rfl, e2, e3⟩ | ⟨rfl, hj, rfl, rfl, e0, e4⟩
    · simp only [Steps]
      simp -implicitDefEqProofs (disch := omega) [e2, e3]
      exact f2
    · simp only [Steps]
      have ho2 := nb_objs (xs := ub out) (o := lxO s j d) hL
      simp -implicitDefEqProofs (disch := omega) [-storeD, -load_ptr, -nilCheckD, -fieldAddrD, -H.els, lx_s ho2, lx_at ho2, lx_nil ho2, lx_f0 ho2, lx_f1 ho2, e0, e4]
      exact f2
  | ok oe =>
    obtain ⟨o, e⟩ := oe
    rw [htx] at hm
    simp only at hm ⊢
    obtain ⟨rfl, rfl, rfl, hj, e0, e4, e5⟩ := hm
    have ho2 := nb_objs (xs := ub o) (o := lxO s e d) hL
    obtain ⟨_, f1⟩ := (hmv e).1.nrow (ub o)
    have f2 := (hmv e).2.trans f1
    have lN := len_new (b := h.set L (lxO s e d)) (out := o)
    by_cases h64 : 64 < o.length
    · rw [if_pos h64]
      simp only [Steps]
      simp -implicitDefEqProofs (disch := omega) [-storeD, -load_ptr, -nilCheckD, -fieldAddrD, -H.els, lx_s ho2, lx_at ho2, lx_nil ho2, lx_f0 ho2, lx_f1 ho2, e0, e4, e5, lN]
      exact f2
    · rw [if_neg h64]
      simp only [Steps]
      have hst2 := lx_set ho2 (e + 1 : Int)
      have e1 : ((e : Int) + 1) = ((e + 1 : Nat) : Int) := by omega
      have cv := conv_new (b := h.set L (lxO s (e + 1 : Nat) d)) (out := o)
      obtain ⟨g1, g2⟩ := (hmv (e + 1)).1.nrow (ub o)
      obtain ⟨h', q, q2, q3, _⟩ := c33 (c := 35) g1 hlen ⟨2, ⟨o.toArray⟩, 0, i⟩
      have hst3 : storeD Tryd.prog (nrow 5 1 (ub o) (h.set L (lxO s e d))).2 3 (.ptr L 0 1 1) (.t (.int .i64 ((e : Int) + 1))) = some (nrow 5 1 (ub o) (h.set L (lxO s (e + 1 : Nat) d))).2 := by
        rw [hst2, e1, nb_set hL]
      rw [nb_fst (o' := lxO s (e + 1 : Nat) d)] at e5 lN
      simp only [Tk.t] at q
      simp only [← e1] at e5 lN hst3 cv q
      simp -implicitDefEqProofs (disch := omega) [-storeD, -load_ptr, -nilCheckD, -fieldAddrD, -H.els, lx_s ho2, lx_at ho2, lx_nil ho2, lx_f0 ho2, lx_f1 ho2, e0, e4, e5, lN, hst3, cv, q]
      exact ⟨q2, ((hmv (e + 1)).2.trans g2).trans q3⟩
end Go.Proofs.YtlcbhhmnfmeoeaaDoor
