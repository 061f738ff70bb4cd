import Derived.Test.YtlcbhhmnfmeoeaaDoorDL6
set_option linter.unusedSimpArgs false
set_option linter.unusedVariables false
set_option linter.unusedSectionVars false
namespace Go.Proofs.YtlcbhhmnfmeoeaaDoor
open Vai
set_option maxHeartbeats 0
theorem Steps.any {n : Nat} {h : H} {L : Nat} {s : ByteArray} {ts : List T} {r : Option (D × H)} {e : Except (Nat × Int) (Tk × Nat)} (hs : Steps n h L s ts r e) : ∃ (a : Nat) (w : Int) (h' : H), r = some (.tup [.t (.int .i64 a), .t (.int .i64 w)], h') := by
  cases e with
  | ok x => obtain ⟨t, j⟩ := x; obtain ⟨h', q, _⟩ := hs; exact ⟨0, 0, h', q⟩
  | error x => obtain ⟨a, w⟩ := x; obtain ⟨h', q, _⟩ := hs; exact ⟨a, w, h', q⟩
theorem Steps.of {n : Nat} {h : H} {L : Nat} {s : ByteArray} {ts : List T} {r r' : Option (D × H)} {e : Except (Nat × Int) (Tk × Nat)} (hs : Steps n h L s ts r e) (hr : r' = r) : Steps n h L s ts r' e := hr ▸ hs
theorem s20 {n : Nat} {h : H} {L : Nat} {s : ByteArray} {i : Nat} {ts : List T} (hl : LX n h L s i ts) (hlen : ts.length ≤ 1000000) (hs : s.size ≤ 100000) (hi : i < s.size) :
    Steps n h L s ts (call cx prim 20 [.ptr L 0 0 1] h) (tok1 s i) := by
  rw [call_run rfl Tryd.func20 ok20 nd20 rfl (Nat.le_of_ble_eq_true rfl) rfl rfl]
  obtain ⟨d, ho⟩ := lx_isAt hl
  obtain ⟨b, hb, hbt⟩ := bt_get (s := s) (i := i) hi
  have c1 : (i : Int) < s.size := by omega
  have q30 := fun h => c30 (c := 20) b.toNat h rfl
  have q32 := fun h => c32 (c := 20) b.toNat h rfl
  unfold tok1
  rw [hbt]
  by_cases hd : digitB b.toNat = true
  · have S := s31 hl hlen (by omega) hi (by rw [hbt]; exact hd)
    rw [if_pos hd]
    rw [hd] at q30
    obtain ⟨a, w, h', q⟩ := S.any
    have k31 := keepT (cc := cx.at 20) cb31 (by simp [md]) q
    rw [q] at S
    refine S.of ?_
    simp -implicitDefEqProofs (disch := omega) [-storeD, -load_ptr, -nilCheckD, -fieldAddrD, -H.els, lx_s ho, lx_at ho, lx_nil ho, lx_f0 ho, lx_f1 ho, hb, q30, k31]
  rw [if_neg hd]
  have hd' : digitB b.toNat = false := by simpa using hd
  rw [hd'] at q30
  by_cases hlt : letterB b.toNat = true
  · rw [if_pos hlt]
    rw [hlt] at q32
    obtain ⟨d', ho', hl2, hfr⟩ := hl.move (runTo wordB s i)
    rw [ho] at ho'
    have e : lxO s i d = lxO s i d' := Option.some.inj ho'
    have w := keepT (cc := cx.at 20) cb18 (by simp [md]) (s18 (p := 34) (fun b h => c34 b h rfl) ho (by omega) (by omega))
    obtain ⟨h', r1, r2, r3, _⟩ := c33 (c := 20) hl2 hlen ⟨3, s.extract i (runTo wordB s i), 0, i⟩
    have ed : d = d' := by
      simp only [lxO, AObj.row.injEq, List.cons.injEq, true_and, and_true] at e
      have := congrArg D.cells e
      rw [mkAgg_cells, mkAgg_cells] at this
      simpa using this
    subst ed
    simp only [Tk.t] at r1
    simp only [Steps]
    simp -implicitDefEqProofs (disch := omega) [-storeD, -load_ptr, -nilCheckD, -fieldAddrD, -H.els, lx_s ho, lx_at ho, lx_nil ho, lx_f0 ho, lx_f1 ho, hb, q30, q32, w, r1]
    exact ⟨r2, hfr.trans r3⟩
  rw [if_neg hlt]
  have hlt' : letterB b.toNat = false := by simpa using hlt
  rw [hlt'] at q32
  by_cases h34 : b.toNat = 34
  · rw [if_pos h34]
    have S := s35 hl hlen hs hi
    obtain ⟨a, w, h', q⟩ := S.any
    have k35 := keepT (cc := cx.at 20) cb35 (by simp [md]) q
    rw [q] at S
    refine S.of ?_
    simp only [h34, show ((34 : Nat) : Int) = 34 from rfl] at q30 q32
    simp -implicitDefEqProofs (disch := omega) [-storeD, -load_ptr, -nilCheckD, -fieldAddrD, -H.els, lx_s ho, lx_at ho, lx_nil ho, lx_f0 ho, lx_f1 ho, hb, h34, q30, q32, k35]
  · rw [if_neg h34]
    have S := s36 hl hlen (by omega) hi
    have e34 : eqI (b.toNat : Int) 34 = false := eqI_false (by omega)
    obtain ⟨a, w, h', q⟩ := S.any
    have k36 := keepT (cc := cx.at 20) cb36 (by simp [md]) q
    rw [q] at S
    refine S.of ?_
    simp -implicitDefEqProofs (disch := omega) [-storeD, -load_ptr, -nilCheckD, -fieldAddrD, -H.els, lx_s ho, lx_at ho, lx_nil ho, lx_f0 ho, lx_f1 ho, hb, e34, q30, q32, k36]
end Go.Proofs.YtlcbhhmnfmeoeaaDoor
