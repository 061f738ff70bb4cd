import Derived.Test.YtlcbhhmnfmeoeaaDoorDL1
set_option linter.unusedSimpArgs false
set_option linter.unusedVariables false
set_option linter.unusedSectionVars false
namespace Go.Proofs.YtlcbhhmnfmeoeaaDoor
open Vai
set_option maxHeartbeats 0
/-- The lexer L stands at i, what it has laid down are the tokens ts; all that is its own stands from n on. -/
def LX (n : Nat) (h : H) (L : Nat) (s : ByteArray) (i : Nat) (ts : List T) : Prop := n ≤ L ∧ L < h.next ∧ h.marks = [] ∧ (∀ x ∈ ts, x.cells.length = 4) ∧ ∃ d, h.objs L = some (lxO s i d) ∧ ((d = .t .nilSlice ∧ ts = []) ∨ ∃ id, n ≤ id ∧ id < h.next ∧ d = .row id 0 ts.length ts.length ∧ h.objs id = some (.row 36 4 (ts.map .t)))
/-- What stands below n stays. -/
def Fr (n : Nat) (h h' : H) : Prop := h.next ≤ h'.next ∧ h'.marks = h.marks ∧ ∀ id, id < n → h'.objs id = h.objs id
theorem Fr.refl (n : Nat) (h : H) : Fr n h h := ⟨Nat.le_refl _, rfl, fun _ _ => rfl⟩
theorem Fr.trans {n : Nat} {h h1 h2 : H} (a : Fr n h h1) (b : Fr n h1 h2) : Fr n h h2 := ⟨Nat.le_trans a.1 b.1, b.2.1.trans a.2.1, fun id hid => (b.2.2 id hid).trans (a.2.2 id hid)⟩
theorem Fr.set {n id : Nat} {h : H} {o : AObj} (hid : n ≤ id) : Fr n h (h.set id o) := ⟨Nat.le_refl _, rfl, fun j hj => by simp only [set_objs, upd_ne _ _ (show j ≠ id by omega)]⟩
theorem Fr.push {n : Nat} {h : H} {o : AObj} (hn : n ≤ h.next) : Fr n h (h.push o) := ⟨Nat.le_succ _, rfl, fun j hj => by simp only [push_objs, upd_ne _ _ (show j ≠ h.next by omega)]⟩
theorem LX.move {n : Nat} {h : H} {L : Nat} {s : ByteArray} {i : Nat} {ts : List T} (hl : LX n h L s i ts) (j : Nat) : ∃ d, h.objs L = some (lxO s i d) ∧ LX n (h.set L (lxO s j d)) L s j ts ∧ Fr n h (h.set L (lxO s j d)) := by
  obtain ⟨h1, h2, h3, h4, d, hd, h5⟩ := hl
  refine ⟨d, hd, ⟨h1, h2, h3, h4, d, by simp, ?_⟩, Fr.set h1⟩
  rcases h5 with h5 | ⟨id, g1, g2, rfl, g3⟩
  · exact .inl h5
  · refine .inr ⟨id, g1, g2, rfl, ?_⟩
    have hne : id ≠ L := fun e => by
      subst e
      rw [hd] at g3
      simp [lxO] at g3
    simp only [set_objs, upd_ne _ _ hne]
    exact g3
theorem s33 {n : Nat} {h : H} {L : Nat} {s : ByteArray} {i : Nat} {ts : List T} (hl : LX n h L s i ts) (hlen : ts.length ≤ 1000000) (t : Tk) :
    ∃ h', call cx prim 33 [.ptr L 0 0 1, .t t.t] h = some (.tup [], h') ∧ LX n h' L s i (ts ++ [t.t]) ∧ Fr n h h' ∧ ∀ id es, id < h.next → h.objs id = some (.row 48 1 es) → h'.objs id = some (.row 48 1 es) := by
  obtain ⟨h1, h2, h3, h4, d, hd, h5⟩ := hl
  rw [call_run rfl Tryd.func33 ok33 nd33 rfl (Nat.le_of_ble_eq_true rfl) rfl rfl]
  have hb : ∀ o, (h.push o).objs L = some (lxO s i d) := fun o => by simp only [push_objs, upd_ne _ _ (show L ≠ h.next by omega)]; exact hd
  have f1 := fun o => lx_out (hb o)
  have f2 := fun o => lx_nil (hb o)
  have f3 := fun o => lx_f2 (hb o)
  rcases h5 with ⟨rfl, rfl⟩ | ⟨id, g1, g2, rfl, g3⟩
  · have hb2 : ∀ o o', ((h.push o).push o').objs L = some (lxO s i (.t .nilSlice)) := fun o o' => by simp only [push_objs, push_next, upd_ne _ _ (show L ≠ h.next by omega), upd_ne _ _ (show L ≠ h.next + 1 by omega)]; exact hd
    have k2 := fun o o' => lx_nil (hb2 o o')
    have k3 := fun o o' => lx_f2 (hb2 o o')
    have k4 := fun o o' => lx_put (d' := .row (h.next + 1) 0 1 1) (hb2 o o') rfl (by simp [h3])
    simp -implicitDefEqProofs (disch := omega) [-storeD, -nilCheckD, -fieldAddrD, f1, f2, f3, Tk.t, litSliceD, List.replicate, appendD, sourceD, k2, k3, k4]
    refine ⟨⟨h1, by simp; omega, h3, by simp, .row (h.next + 1) 0 1 1, by simp, .inr ⟨h.next + 1, by omega, by simp, rfl, ?_⟩⟩, ((Fr.push (by omega)).trans (Fr.push (by simp; omega))).trans (Fr.set h1), fun id es hid ho => ?_⟩
    · simp [show ¬ (h.next + 1 = L) by omega]
    · have hne : id ≠ L := fun e => by
        subst e
        rw [hd] at ho
        simp [lxO] at ho
      simp [hne, show ¬ (id = h.next) by omega, show ¬ (id = h.next + 1) by omega, ho]
  · have hne : id ≠ L := fun e => by
      subst e
      rw [hd] at g3
      simp [lxO] at g3
    have hb3 : ∀ o, (h.push o).objs id = some (.row 36 4 (ts.map .t)) := fun o => by simp only [push_objs, upd_ne _ _ (show id ≠ h.next by omega)]; exact g3
    have hb2 : ∀ o o', ((h.push o).set id o').objs L = some (lxO s i (.row id 0 ts.length ts.length)) := fun o o' => by simp only [push_objs, set_objs, upd_ne _ _ (show L ≠ h.next by omega), upd_ne _ _ (show L ≠ id from fun e => hne e.symm)]; exact hd
    have k2 := fun o o' => lx_nil (hb2 o o')
    have k3 := fun o o' => lx_f2 (hb2 o o')
    have k4 := fun o o' => lx_put (d' := .row id 0 (ts.length + 1) (ts.length + 1)) (hb2 o o') rfl (by simp [h3])
    have hall : (ts.map D.t).all (fun d => d.cells.length == 4) = true := by
      simp only [List.all_map, List.all_eq_true]
      intro x hx
      simp [h4 x hx]
    have e1 : (ts.length : Nat) + 1 < 140737488355328 := by omega
    have e2 : (ts.length + 1) * 40 ≤ 140737488355328 := by omega
    simp -implicitDefEqProofs (disch := omega) [-storeD, -nilCheckD, -fieldAddrD, f1, f2, f3, Tk.t, litSliceD, List.replicate, appendD, sourceD, k2, k3, k4, hb3, h3, e1, e2, show ¬ (id = h.next) by omega, g3]
    refine ⟨⟨h1, by simp; omega, h3, fun x hx => ?_, .row id 0 (ts.length + 1) (ts.length + 1), by simp, .inr ⟨id, g1, by simp; omega, by simp, ?_⟩⟩, ((Fr.push (by omega)).trans (Fr.set g1)).trans (Fr.set h1), fun id2 es hid ho => ?_⟩
    · rcases List.mem_append.1 hx with hx | hx
      · exact h4 x hx
      · simp at hx; subst hx; rfl
    · simp [hne]
    · have hne2 : id2 ≠ L := fun e => by
        subst e
        rw [hd] at ho
        simp [lxO] at ho
      have hne3 : id2 ≠ id := fun e => by
        subst e
        rw [g3] at ho
        simp at ho
      simp [hne2, hne3, show ¬ (id2 = h.next) by omega, ho]
theorem c33 {c : FuncId} {n : Nat} {h : H} {L : Nat} {s : ByteArray} {i : Nat} {ts : List T} (hl : LX n h L s i ts) (hlen : ts.length ≤ 1000000) (t : Tk) :
    ∃ h', callD (cx.at c) (call cx prim) 33 [.ptr L 0 0 1, .t t.t] h = some (.tup [], h') ∧ LX n h' L s i (ts ++ [t.t]) ∧ Fr n h h' ∧ ∀ id es, id < h.next → h.objs id = some (.row 48 1 es) → h'.objs id = some (.row 48 1 es) := by
  obtain ⟨h', q, r⟩ := s33 hl hlen t
  exact ⟨h', keepT cb33 (by simp [md]) q, r⟩
end Go.Proofs.YtlcbhhmnfmeoeaaDoor
