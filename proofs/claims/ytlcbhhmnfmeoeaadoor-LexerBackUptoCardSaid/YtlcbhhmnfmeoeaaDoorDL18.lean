import Derived.Test.YtlcbhhmnfmeoeaaDoorDL17
set_option linter.unusedSimpArgs false
set_option linter.unusedVariables false
set_option linter.unusedSectionVars false
namespace Go.Proofs.YtlcbhhmnfmeoeaaDoor
open Vai
set_option maxHeartbeats 0
theorem bad_ge (s : ByteArray) (i : Nat) : bad s i = -1 ∨ 0 ≤ bad s i := by
  fun_induction bad s i with
  | case1 => exact .inl rfl
  | case2 => exact .inr (by omega)
  | case3 _ _ _ ih => exact ih
theorem row_snap {h : H} {id n : Nat} {bt : TypeId} {s : Nat} {ts : List T} (ho : h.objs id = some (.row bt s (ts.map .t))) (hn : ts.length = n) : Vai.snap h (.row id 0 n n) = some (.slice ts) := by
  have he : h.els id n = some (bt, s, ts.map .t) := by simp [H.els, ho, hn]
  rw [snap_def, snapF_row, he]
  simp only [Nat.zero_add, List.length_map, hn, Nat.le_refl, if_true, List.drop_zero]
  rw [List.take_of_length_le (by simp [hn]), snapF_map]
  rfl
theorem TR.snap {h : H} {d : D} {l : List Tk} (ht : TR h d l) : ∃ x, Vai.snap h d = some x ∧ Slice x (l.map Tk.t) := by
  rcases ht with ⟨rfl, rfl⟩ | ⟨id, h1, rfl, h3⟩
  · exact ⟨.nilSlice, rfl, Slice.nil⟩
  · exact ⟨_, row_snap h3 (by simp), .inr rfl⟩
theorem TB.tr {n : Nat} {h : H} {d : D} {l : List Tk} (ht : TB n h l d) : TR h d l := by
  rcases ht with ht | ⟨id, h1, h2, h3, h4⟩
  · exact .inl ht
  · exact .inr ⟨id, h2, h3, by rw [List.map_map]; exact h4⟩
theorem s10 (s : ByteArray) (hs : s.size ≤ 1000000000) : ∃ d h', call cx prim 10 [.t (.str s)] .empty = some (.tup [d, .t (fltT (lexS s).2.1 (lexS s).2.2)], h') ∧ TR h' d (lexS s).1 := by
  rw [call_run rfl Tryd.func10 ok10 nd10 rfl (Nat.le_of_ble_eq_true rfl) rfl rfl]
  have hpush : H.empty.push (.row 27 2 [.t (.agg [.int .i64 0, .int .i64 0])]) = H.empty.push (flt 0 0) := rfl
  have h0 : (H.empty.push (flt 0 0)).objs 0 = some (flt 0 0) := by simp
  have fst := fl_st h0
  have ld := fun (h2 : H) a' w' => fl_ld (h := h2.set 0 (flt a' w')) (K := 0) (a := a') (w := w') (by simp)
  have ldp := fun a' w' => fl_ld (h := H.empty.push (flt a' w')) (K := 0) (a := a') (w := w') (by simp)
  have hRB : RB (H.empty.push (flt 0 0)) (.t .nilSlice) [] := ⟨.inl ⟨rfl, rfl⟩, rfl, by simp, h0⟩
  unfold lexS
  by_cases h1 : 256 < s.size
  · rw [if_pos h1]
    have c1 : (256 : Int) < s.size := by omega
    simp -implicitDefEqProofs (disch := omega) [-storeD, -load_ptr, -H.els, hpush, fst, ldp]
    exact ⟨_, _, ⟨⟨rfl, rfl⟩, rfl⟩, .inl ⟨rfl, rfl⟩⟩
  rw [if_neg h1]
  have c1 : ¬ (256 : Int) < s.size := by omega
  have q21 := fun h => c21 (c := 10) s h hs rfl
  by_cases h2 : 0 ≤ bad s 0
  · rw [if_pos h2]
    have c2 : eqI (bad s 0) (-1) = false := eqI_false (by omega)
    simp -implicitDefEqProofs (disch := omega) [-storeD, -load_ptr, -H.els, hpush, fst, ldp, q21, c2]
    exact ⟨_, _, ⟨⟨rfl, rfl⟩, rfl⟩, .inl ⟨rfl, rfl⟩⟩
  rw [if_neg h2]
  have c2 : bad s 0 = -1 := by rcases bad_ge s 0 with h | h <;> omega
  have lemL := fun (st : St) (r : CR) => l10 (s := s) (by omega) (st := st) (r := r)
  simp -implicitDefEqProofs (disch := omega) [-storeD, -load_ptr, -H.els, hpush, fst, ldp, q21, c2]
  generalize hLp : loopω (LB cx prim 10 Tryd.f10 0) _ = R
  obtain ⟨x, ⟨nn, env, h2⟩, rfl, rfl, e3, hm⟩ := lemL _ _ hLp rfl (by simp) (by simp) (by simp) (by simpa using hRB)
  simp only at e3
  cases htk : toks s 0 [] with
  | error f =>
    obtain ⟨a, w⟩ := f
    rw [htk] at hm
    obtain ⟨rfl, e2, ho⟩ := hm
    simp only at e2 ho
    have ld2 := fl_ld ho
    simp -implicitDefEqProofs (disch := omega) [-storeD, -load_ptr, -H.els, e2, e3, ld2]
    exact ⟨_, _, ⟨⟨rfl, rfl⟩, rfl⟩, .inl ⟨rfl, rfl⟩⟩
  | ok l =>
    rw [htk] at hm
    obtain ⟨rfl, hr⟩ := hm
    simp only at hr
    have fst2 := fl_st hr.2.2.2
    simp -implicitDefEqProofs (disch := omega) [-storeD, -load_ptr, -H.els, e3, fst2, ld]
    exact ⟨_, _, ⟨⟨rfl, rfl⟩, rfl⟩, hr.1.setF hr.2.2.2⟩
end Go.Proofs.YtlcbhhmnfmeoeaaDoor
