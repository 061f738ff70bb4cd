import Derived.Test.YtlcbhhmnfmeoeaaDoorDL18
set_option linter.unusedSimpArgs false
set_option linter.unusedVariables false
set_option linter.unusedSectionVars false
namespace Go.Proofs.YtlcbhhmnfmeoeaaDoor
open Vai
set_option maxHeartbeats 0
theorem y11 : yes (callN cx prim 60 11 [] .empty) = true := by kernel_rfl
theorem c11 {c : FuncId} (h : H) (hm : md c 11 = .pure) : callD (cx.at c) (call cx prim) 11 [] h = some (.t (.bool true), h) := by
  obtain ⟨h', q⟩ := yes_call y11
  exact pureT cb11 hm q rfl rfl
theorem Slice.eq_or {x : T} {xs : List T} (h : Slice x xs) : (x = .nilSlice ∧ xs = []) ∨ x = .slice xs := h
theorem c9 {c : FuncId} (s : ByteArray) (hs : s.size ≤ 1000000000) (hm : md c 9 = .pure) : ∃ x, Slice x ((lexS s).1.map Tk.t) ∧ ∀ h, callD (cx.at c) (call cx prim) 9 [.t (.str s)] h = some (.tup [.t x, .t (.int .i64 (lexS s).2.1), .t (.int .i64 (lexS s).2.2)], h) := by
  obtain ⟨d, h', q, _, ht⟩ := s9 (h := .empty) rfl s hs
  obtain ⟨x, hx, hsl⟩ := ht.tr.snap
  exact ⟨x, hsl, fun h => pureT cb9 hm q (by simp only [snapOut, allM, hx, snap_t]; rfl) rfl⟩
theorem c10 {c : FuncId} (s : ByteArray) (hs : s.size ≤ 1000000000) (hm : md c 10 = .pure) : ∃ x, Slice x ((lexS s).1.map Tk.t) ∧ ∀ h, callD (cx.at c) (call cx prim) 10 [.t (.str s)] h = some (.tup [.t x, .t (fltT (lexS s).2.1 (lexS s).2.2)], h) := by
  obtain ⟨d, h', q, ht⟩ := s10 s hs
  obtain ⟨x, hx, hsl⟩ := ht.snap
  exact ⟨x, hsl, fun h => pureT cb10 hm q (by simp only [snapOut, allM, hx, snap_t]; rfl) rfl⟩
theorem toks_len {s : ByteArray} {i : Nat} {l : List Tk} : ∀ {m}, toks s i l = .ok m → l.length ≤ i → m.length ≤ i ∨ m.length ≤ s.size := by
  fun_induction toks s i l with
  | case1 i l h => intro m e hl; cases e; exact .inl hl
  | case2 => intro m e hl; cases e
  | case3 i l h1 t j ht h2 ih =>
    intro m e hl
    have hgt := tok1_gt (by omega) ht
    have hge := runTo_ge blankB s i
    have := ih e (by simp; omega)
    omega
  | case4 => intro m e hl; cases e; exact .inl hl
theorem lexS_len (s : ByteArray) : (lexS s).1.length ≤ 256 := by
  unfold lexS
  split
  · simp
  split
  · simp
  split
  · rename_i l h
    have := toks_len h (by simp)
    simp only
    omega
  · simp
theorem same_refl {l : List Tk} {p : Bool} : ∀ (k : Nat) (a b : Tk), l[k]? = some a → l[k]? = some b → sameK p a b := fun k a b h1 h2 => by
  rw [h1] at h2
  cases h2
  exact ⟨rfl, rfl, rfl, fun _ => rfl⟩
theorem law3 (s : ByteArray) (hs : s.size ≤ 10000000) : ∃ h', call cx prim 3 [.t (.str s)] .empty = some (.t (.bool true), h') := by
  rw [call_run rfl Tryd.func3 ok3 nd3 rfl (Nat.le_of_ble_eq_true rfl) rfl rfl]
  obtain ⟨x, hx, q9⟩ := c9 (c := 3) s (by omega) rfl
  obtain ⟨y, hy, q10⟩ := c10 (c := 3) s (by omega) rfl
  have q11 := fun h => c11 (c := 3) h rfl
  have q12 := fun h => c12 (c := 3) (p := true) (x := .t x) (y := .t y) h rfl (by have := lexS_len s; omega) same_refl rfl (snap_t _ _) hx (snap_t _ _) hy
  generalize (lexS s).2.1 = a at *
  generalize (lexS s).2.2 = w at *
  have hpush : H.empty.push (.row 27 2 [.t (.agg [.int .i64 0, .int .i64 0])]) = H.empty.push (flt 0 0) := rfl
  have h0 : (H.empty.push (flt 0 0)).objs 0 = some (flt 0 0) := by simp
  have fst := fl_st h0
  have hK : ∀ a w, (H.empty.push (flt a w)).objs 0 = some (flt a w) := fun a w => by simp
  have f0 := fun a w => fl_f0 (hK a w)
  have f1 := fun a w => fl_f1 (hK a w)
  have l0 := fun a w => fl_l0 (hK a w)
  have l1 := fun a w => fl_l1 (hK a w)
  simp only [fltT] at q10
  simp -implicitDefEqProofs (disch := omega) [-storeD, -load_ptr, -fieldAddrD, -H.els, q9, q10, q11, q12, hpush, fst, f0, f1, l0, l1]
end Go.Proofs.YtlcbhhmnfmeoeaaDoor
