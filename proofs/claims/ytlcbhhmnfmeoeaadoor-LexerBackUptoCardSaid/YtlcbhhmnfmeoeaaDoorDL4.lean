import Derived.Test.YtlcbhhmnfmeoeaaDoorDL3
set_option linter.unusedSimpArgs false
set_option linter.unusedVariables false
set_option linter.unusedSectionVars false
namespace Go.Proofs.YtlcbhhmnfmeoeaaDoor
open Vai
set_option maxHeartbeats 0
theorem LX.push {n : Nat} {h : H} {L : Nat} {s : ByteArray} {i : Nat} {ts : List T} (hl : LX n h L s i ts) (o : AObj) : LX n (h.push o) L s i ts ∧ Fr n h (h.push o) := by
  obtain ⟨h1, h2, h3, h4, d, hd, h5⟩ := hl
  refine ⟨⟨h1, by simp; omega, h3, h4, d, by simp only [push_objs, upd_ne _ _ (show L ≠ h.next by omega)]; exact hd, ?_⟩, Fr.push (by omega)⟩
  rcases h5 with h5 | ⟨id, g1, g2, rfl, g3⟩
  · exact .inl h5
  · exact .inr ⟨id, g1, by simp; omega, rfl, by simp only [push_objs, upd_ne _ _ (show id ≠ h.next by omega)]; exact g3⟩
theorem s36 {n : Nat} {h : H} {L : Nat} {s : ByteArray} {i : Nat} {ts : List T} (hl : LX n h L s i ts) (hlen : ts.length ≤ 1000000) (hs : s.size ≤ 1000000) (hi : i < s.size) :
    Steps n h L s ts (call cx prim 36 [.ptr L 0 0 1] h) (if signL s i = 0 then .error (i, 121) else .ok (⟨4, s.extract i (i + signL s i), 0, i⟩, i + signL s i)) := by
  rw [call_run rfl Tryd.func36 ok36 nd36 rfl (Nat.le_of_ble_eq_true rfl) rfl rfl]
  obtain ⟨hl1, hf1⟩ := hl.push (.row 48 1 [.ptr L 0 0 1])
  have hB : (h.push (.row 48 1 [.ptr L 0 0 1])).objs h.next = some (.row 48 1 [.ptr L 0 0 1]) := by simp
  generalize hh1 : h.push (.row 48 1 [.ptr L 0 0 1]) = h1 at hl1 hf1 hB
  obtain ⟨d, ho⟩ := lx_isAt hl1
  have lB : loadD Tryd.prog h1 48 (.ptr h.next 0 0 1) = some (.ptr L 0 0 1) := by simp [loadD, H.els, hB]
  have q42 := keepT (cc := cx.at 36) cb42 (by simp [md]) (s42 ho hB hs hi sgs (by decide) (by decide))
  have hfd := sign_find hi
  have hlit : sgs.map T.str = [.str ⟨#[61, 61]⟩, .str ⟨#[33, 61]⟩, .str ⟨#[60, 61]⟩, .str ⟨#[62, 61]⟩, .str ⟨#[38, 38]⟩, .str ⟨#[124, 124]⟩, .str ⟨#[43]⟩, .str ⟨#[45]⟩, .str ⟨#[42]⟩, .str ⟨#[47]⟩, .str ⟨#[37]⟩, .str ⟨#[40]⟩, .str ⟨#[41]⟩, .str ⟨#[63]⟩, .str ⟨#[58]⟩, .str ⟨#[33]⟩, .str ⟨#[60]⟩, .str ⟨#[62]⟩] := rfl
  cases hfi : sgs.findIdx? (atS s i) with
  | none =>
    rw [hfi] at hfd q42
    simp only at hfd q42
    rw [if_pos hfd]
    simp only [Steps]
    rw [hlit] at q42
    simp -implicitDefEqProofs (disch := omega) [-storeD, -load_ptr, -nilCheckD, -fieldAddrD, -H.els, lx_s ho, lx_at ho, lx_nil ho, lx_f0 ho, lx_f1 ho, lB, litSliceD, List.replicate, hh1, q42]
    exact hf1
  | some k =>
    rw [hfi] at hfd q42
    simp only at hfd q42
    obtain ⟨x, hx, hne, hxe, hxs⟩ := hfd
    rw [if_neg hne]
    simp only [Steps]
    obtain ⟨h2, r1, r2, r3, r4⟩ := c33 (c := 36) hl1 hlen ⟨4, s.extract i (i + signL s i), 0, i⟩
    rw [← hxe] at r1 r2 ⊢
    simp only [Tk.t] at r1
    have hB2 := r4 _ _ (by rw [← hh1]; simp) hB
    obtain ⟨d2, ho2, r5, r6⟩ := r2.move (i + signL s i)
    have hsl := signL_le hi
    have lB2 : loadD Tryd.prog h2 48 (.ptr h.next 0 0 1) = some (.ptr L 0 0 1) := by simp [loadD, H.els, hB2]
    have hst := lx_set ho2 (i + signL s i : Int)
    have hsz : ((x.size : Nat) : Int) = signL s i := by omega
    have hk : ¬ ((k : Int) < 0) := by omega
    simp -implicitDefEqProofs (disch := omega) [-storeD, -load_ptr, -nilCheckD, -fieldAddrD, -H.els, lx_s ho, lx_at ho, lx_nil ho, lx_f0 ho, lx_f1 ho, lx_at ho2, lx_nil ho2, lx_f1 ho2, lB, lB2, litSliceD, List.replicate, hh1, ← hlit, q42, hx, r1, hsz, hst]
    have e : ((i : Int) + signL s i) = ((i + signL s i : Nat) : Int) := by omega
    rw [e]
    exact ⟨r5, hf1.trans (r3.trans r6)⟩
/-! texts -/
theorem upd_comm' {α : Type} {f : Nat → α} {i j : Nat} {x y : α} (hne : i ≠ j) : upd (upd f j y) i x = upd (upd f i x) j y := by
  funext k
  simp only [upd]
  by_cases h1 : k = i <;> by_cases h2 : k = j
  · exact absurd (h1.symm.trans h2) hne
  · simp [h1, hne]
  · simp [h2, Ne.symm hne]
  · simp [h1, h2]
theorem upd_upd' {α : Type} {f : Nat → α} {i : Nat} {x y : α} : upd (upd f i x) i y = upd f i y := by
  funext k
  simp only [upd]
  split <;> rfl
section
variable {h : H} {L : Nat} {xs : List T} {o o' : AObj} (hL : L < h.next)
include hL
theorem nb_objs : (nrow 5 1 xs (h.set L o)).2.objs L = some o := by
  unfold nrow
  split
  · simp
  · simp only [push_objs, set_next, upd_ne _ _ (show L ≠ h.next by omega), set_objs, upd_same]
theorem nb_set : (nrow 5 1 xs (h.set L o)).2.set L o' = (nrow 5 1 xs (h.set L o')).2 := by
  unfold nrow
  split
  · simp
  · simp only [H.push, H.set, H.mk.injEq, and_true]
    exact (upd_comm' (show L ≠ h.next by omega)).trans (by rw [upd_upd'])
end
theorem nb_fst {h : H} {L : Nat} {xs : List T} {o o' : AObj} : (nrow 5 1 xs (h.set L o)).1 = (nrow 5 1 xs (h.set L o')).1 := by
  unfold nrow; split <;> rfl
theorem nb_app {h : H} {out : List UInt8} (y : ByteArray) (hl : out.length + y.size ≤ 1000000) : appendD Tryd.prog (nrow 5 1 (ub out) h).2 40 (nrow 5 1 (ub out) h).1 (.t (.str y)) = some (nrow 5 1 (ub (out ++ y.data.toList)) h) := by
  have hy : y.data.toList.length = y.size := by simp
  rw [ub_append]
  exact append_new (P := Tryd.prog) (t := 40) (e := 5) (s := 1) (b := 1) (x := .t (.str y)) (ys := ub y.data.toList) tk40 sz5 byt5 zero5 rfl (by decide) rfl (ub_cells _) (by rw [ub_len, ub_len, hy]; omega) (by rw [ub_len, ub_len, hy]; omega)
end Go.Proofs.YtlcbhhmnfmeoeaaDoor
