import Derived.Test.YtlcbhhmnfmeoeaaDoorDL7
set_option linter.unusedSimpArgs false
set_option linter.unusedVariables false
set_option linter.unusedSectionVars false
namespace Vai
open Go
theorem txt_err {s : ByteArray} {fr i : Nat} {out : List UInt8} {a : Nat} {w : Int} (h : txt s fr i out = .error (a, w)) : w ≠ 0 := by
  fun_induction txt s fr i out with
  | case1 => cases h; decide
  | case2 i out h1 h2 => cases h
  | case3 => cases h; decide
  | case4 => cases h; decide
  | case5 i out h1 h2 h3 h4 h5 hc ih => exact ih h
  | case6 => cases h; decide
  | case7 i out h1 h2 h3 hc ih => exact ih h
  | case8 => cases h; decide
theorem tok1_err {s : ByteArray} {i a : Nat} {w : Int} (h : tok1 s i = .error (a, w)) : w ≠ 0 := by
  unfold tok1 at h
  split at h
  · split at h
    · cases h
    · cases h; decide
  split at h
  · cases h
  split at h
  · split at h
    · split at h
      · cases h; decide
      · cases h
    · rename_i f ht
      cases h
      exact txt_err ht
  split at h
  · cases h; decide
  · cases h
theorem runTo_idem {p : Nat → Bool} {s : ByteArray} {i : Nat} : runTo p s (runTo p s i) = runTo p s i := by
  fun_induction runTo p s i with
  | case1 i h ih => exact ih
  | case2 i h => exact runTo_stop h
end Vai
namespace Go.Proofs.YtlcbhhmnfmeoeaaDoor
open Vai
set_option maxHeartbeats 0
/-- What Tokens hands out. -/
def TB (n : Nat) (h : H) (l : List Tk) (d : D) : Prop := (l = [] ∧ d = .t .nilSlice) ∨ ∃ id, n ≤ id ∧ id < h.next ∧ d = .row id 0 l.length l.length ∧ h.objs id = some (.row 36 4 (l.map fun t => .t t.t))
theorem l9 {n : Nat} {h : H} {L : Nat} {s : ByteArray} (hs : s.size ≤ 256) {st : St} {r : CR} (hLp : loopω (LB cx prim 9 Tryd.f9 0) st = r) (en : st.n = 44) (e0 : st.env 0 = .t (.str s)) (e6 : st.env 6 = .ptr L 0 0 1) (eh : LX n st.h L s (runTo blankB s 0) []) (hf : Fr n h st.h) :
    ∃ x st', r = some (x, st') ∧ st'.n = 44 ∧ Fr n h st'.h ∧ (match toks s 0 [] with
        | .ok l => x = .exit 0 ∧ st'.env 6 = .ptr L 0 0 1 ∧ ∃ p, LX n st'.h L s p (l.map Tk.t)
        | .error (a, w) => x = .ret ∧ st'.env 2 = .t .nilSlice ∧ st'.env 3 = .t (.int .i64 a) ∧ st'.env 4 = .t (.int .i64 w)) := by
  have hle0 := runTo_le (p := blankB) (s := s) (i := 0) (by omega)
  refine loop_uses hLp (s.size + 1) (fun k st => st.n = 44 ∧ st.env 0 = .t (.str s) ∧ st.env 6 = .ptr L 0 0 1 ∧ Fr n h st.h ∧ ∃ (l : List Tk) (i : Nat), i ≤ s.size ∧ k ≤ runTo blankB s i ∧ l.length ≤ runTo blankB s i ∧ toks s i l = toks s 0 [] ∧ LX n st.h L s (runTo blankB s i) (l.map Tk.t)) _ ⟨en, e0, e6, hf, [], 0, by omega, by omega, by simp, rfl, eh⟩ ?_
  rintro k ⟨nn, env, h2⟩ hk ⟨rfl, e0, e6, hf, l, i, hi, hki, hll, ht, hl⟩
  simp only at e0 e6 hf hl
  rw [LB_run nd9 rfl]
  obtain ⟨d, ho⟩ := lx_isAt hl
  have hle := runTo_le (p := blankB) hi
  have hge := runTo_ge blankB s i
  rw [← ht, toks]
  clear ht
  generalize runTo blankB s i = p at hki hll hl ho hle hge
  by_cases hp : s.size ≤ p
  · rw [if_pos hp]
    have c1 : ¬ (p : Int) < s.size := by omega
    simp -implicitDefEqProofs (disch := omega) [-storeD, -load_ptr, -nilCheckD, -fieldAddrD, -H.els, lx_s ho, lx_at ho, lx_nil ho, lx_f0 ho, lx_f1 ho, e0, e6, Wp_some]
    exact ⟨hf, p, hl⟩
  rw [if_neg hp]
  have c1 : (p : Int) < s.size := by omega
  have S := s20 hl (by simp; omega) (by omega) (by omega : p < s.size)
  cases htk : tok1 s p with
  | error f =>
    obtain ⟨a, w⟩ := f
    rw [htk] at S
    simp only
    obtain ⟨h', q, hf2⟩ := S
    have hw := tok1_err htk
    have hw' : eqI w 0 = false := eqI_false hw
    have k20 := keepT (cc := cx.at 9) cb20 (by simp [md]) q
    simp -implicitDefEqProofs (disch := omega) [-storeD, -load_ptr, -nilCheckD, -fieldAddrD, -H.els, lx_s ho, lx_at ho, lx_nil ho, lx_f0 ho, lx_f1 ho, e0, e6, Wp_some, k20, hw']
    exact hf.trans hf2
  | ok tj =>
    obtain ⟨t, j⟩ := tj
    rw [htk] at S
    obtain ⟨hpj, hj⟩ := tok1_gt (by omega) htk
    simp only
    rw [dif_pos ⟨by omega, by omega⟩]
    obtain ⟨h', q, hl2, hf2⟩ := S
    have k20 := keepT (cc := cx.at 9) cb20 (by simp [md]) q
    obtain ⟨d', ho', hl3, hf3⟩ := hl2.move (runTo blankB s j)
    have w := keepT (cc := cx.at 9) cb18 (by simp [md]) (s18 (p := 19) (fun b h => c19 b h rfl) ho' (by omega) hj)
    simp -implicitDefEqProofs (disch := omega) [-storeD, -load_ptr, -nilCheckD, -fieldAddrD, -H.els, lx_s ho, lx_at ho, lx_nil ho, lx_f0 ho, lx_f1 ho, e0, e6, Wp_some, k20, w]
    have hge2 := runTo_ge blankB s j
    exact ⟨by omega, hf.trans (hf2.trans hf3), l ++ [t], j, hj, by omega, by simp; omega, rfl, by simpa using hl3⟩
theorem s9 {h : H} (hm : h.marks = []) (s : ByteArray) (hs : s.size ≤ 1000000000) : ∃ d h', call cx prim 9 [.t (.str s)] h = some (.tup [d, .t (.int .i64 (lexS s).2.1), .t (.int .i64 (lexS s).2.2)], h') ∧ Fr h.next h h' ∧ TB h.next h' (lexS s).1 d := by
  rw [call_run rfl Tryd.func9 ok9 nd9 rfl (Nat.le_of_ble_eq_true rfl) rfl rfl]
  unfold lexS
  by_cases h1 : 256 < s.size
  · rw [if_pos h1]
    simp -implicitDefEqProofs (disch := omega) []
    exact ⟨_, _, ⟨rfl, rfl⟩, Fr.refl _ _, .inl ⟨rfl, rfl⟩⟩
  rw [if_neg h1]
  have h1' : ¬ (256 : Int) < s.size := by omega
  have q17 := fun h => c17 (c := 9) s h hs rfl
  by_cases h2 : 0 ≤ bad s 0
  · rw [if_pos h2]
    simp -implicitDefEqProofs (disch := omega) [q17]
    exact ⟨_, _, ⟨rfl, rfl⟩, Fr.refl _ _, .inl ⟨rfl, rfl⟩⟩
  rw [if_neg h2]
  have hl0 : LX h.next (h.push (lxO s 0 (.t .nilSlice))) h.next s 0 [] := ⟨Nat.le_refl _, by simp, hm, by simp, .t .nilSlice, by simp, .inl ⟨rfl, rfl⟩⟩
  have hf0 : Fr h.next h (h.push (lxO s 0 (.t .nilSlice))) := Fr.push (Nat.le_refl _)
  obtain ⟨d', ho', hl3, hf3⟩ := hl0.move (runTo blankB s 0)
  have w := keepT (cc := cx.at 9) cb18 (by simp [md]) (s18 (p := 19) (fun b h => c19 b h rfl) ho' (by omega) (by omega))
  have lemL := fun (st : St) (r : CR) => l9 (n := h.next) (h := h) (L := h.next) (s := s) (st := st) (r := r) (by omega)
  have hbox : h.push (.row 50 3 [.t (.agg [.str s, .int .i64 0, .nilSlice])]) = h.push (lxO s 0 (.t .nilSlice)) := rfl
  simp -implicitDefEqProofs (disch := omega) [-storeD, -load_ptr, -nilCheckD, -fieldAddrD, -H.els, q17, hbox, w]
  generalize hLp : loopω _ _ = R
  obtain ⟨x, ⟨nn, env, h2⟩, rfl, rfl, hf, hmm⟩ := lemL _ _ hLp rfl (by simp) (by simp) (by simpa using hl3) (by simpa using hf0.trans hf3)
  cases htk : toks s 0 [] with
  | error f =>
    obtain ⟨a, w⟩ := f
    rw [htk] at hmm
    obtain ⟨rfl, e2, e3, e4⟩ := hmm
    simp only at e2 e3 e4
    simp -implicitDefEqProofs (disch := omega) [-storeD, -load_ptr, -nilCheckD, -fieldAddrD, -H.els, e2, e3, e4]
    exact ⟨_, _, ⟨rfl, rfl⟩, hf, .inl ⟨rfl, rfl⟩⟩
  | ok l =>
    rw [htk] at hmm
    obtain ⟨rfl, e6, p, hl⟩ := hmm
    simp only at e6 hl
    obtain ⟨g1, g2, g3, g4, d, ho, g5⟩ := hl
    simp -implicitDefEqProofs (disch := omega) [-storeD, -load_ptr, -nilCheckD, -fieldAddrD, -H.els, lx_out ho, lx_nil ho, lx_f2 ho, e6]
    refine ⟨_, _, ⟨rfl, rfl⟩, hf, ?_⟩
    rcases g5 with ⟨rfl, g5⟩ | ⟨id, u1, u2, u3, u4⟩
    · exact .inl ⟨by simpa using g5, rfl⟩
    · exact .inr ⟨id, u1, u2, by simpa using u3, by rw [List.map_map] at u4; exact u4⟩
end Go.Proofs.YtlcbhhmnfmeoeaaDoor
