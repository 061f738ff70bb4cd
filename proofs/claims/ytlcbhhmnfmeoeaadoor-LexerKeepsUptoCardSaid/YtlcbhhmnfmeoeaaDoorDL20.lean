import Derived.Test.YtlcbhhmnfmeoeaaDoorDL19
set_option linter.unusedSimpArgs false
set_option linter.unusedVariables false
set_option linter.unusedSectionVars false
namespace Go.Proofs.YtlcbhhmnfmeoeaaDoor
open Vai
set_option maxHeartbeats 0
abbrev tobj (ts : List Tk) : AObj := .row 36 4 (ts.map fun t => .t t.t)
section
variable {h : H} {id n : Nat} {ts : List Tk} (ho : h.objs id = some (tobj ts)) (hn : ts.length = n)
include ho hn
theorem tks_els : h.els id n = some (36, 4, ts.map fun t => .t t.t) := by simp [H.els, ho, hn]
theorem tks_ia {i : Nat} (hi : i < n) : indexAddrD Tryd.prog h 22 (.row id 0 n n) (.t (.int .i64 i)) = some (.ptr id i 0 n) := by
  simp [-H.els, indexAddrD, tks_els ho hn, hi, hn]
theorem tks_f1 {i : Nat} : fieldAddrD Tryd.prog h 36 (.ptr id i 0 n) 1 = some (.ptr id i 1 n) := by simp [-H.els, fieldAddrD, tks_els ho hn]
theorem tks_f2 {i : Nat} : fieldAddrD Tryd.prog h 36 (.ptr id i 0 n) 2 = some (.ptr id i 2 n) := by simp [-H.els, fieldAddrD, tks_els ho hn]
theorem tks_f3 {i : Nat} : fieldAddrD Tryd.prog h 36 (.ptr id i 0 n) 3 = some (.ptr id i 3 n) := by simp [-H.els, fieldAddrD, tks_els ho hn]
theorem tks_sx {i : Nat} (hi : i < n) (x : ByteArray) : storeD Tryd.prog h 9 (.ptr id i 1 n) (.t (.str x)) = some (h.set id (tobj (ts.set i { ts[i]'(by omega) with text := x }))) := by
  have hm : h.mays id [D.t (.str x)] = true := mays_trees h id [.str x]
  have hg : (ts.map fun t => D.t t.t)[i]? = some (.t (ts[i]'(by omega)).t) := by rw [List.getElem?_map, List.getElem?_eq_getElem (by omega)]; rfl
  simp only [Tk.t] at hg
  simp [-H.els, -H.mays, -List.getElem?_map, storeD, tks_els ho hn, hm, okCells, wholeArr, hg, Tk.t, putCells, D.parts, splice, List.map_set]
  simp only [tobj, List.map_set, Tk.t]
theorem tks_sp {i : Nat} (hi : i < n) (x : Int) : storeD Tryd.prog h 3 (.ptr id i 3 n) (.t (.int .i64 x)) = some (h.set id (tobj (ts.set i { ts[i]'(by omega) with pos := x }))) := by
  have hm : h.mays id [D.t (.int .i64 x)] = true := mays_trees h id [.int .i64 x]
  have hg : (ts.map fun t => D.t t.t)[i]? = some (.t (ts[i]'(by omega)).t) := by rw [List.getElem?_map, List.getElem?_eq_getElem (by omega)]; rfl
  simp only [Tk.t] at hg
  simp [-H.els, -H.mays, -List.getElem?_map, storeD, tks_els ho hn, hm, okCells, wholeArr, hg, Tk.t, putCells, D.parts, splice, List.map_set]
  simp only [tobj, List.map_set, Tk.t]
end
/-- A slice of tokens laid down from n on. -/
theorem TB.mono {n : Nat} {h h' : H} {l : List Tk} {d : D} {m : Nat} (ht : TB n h l d) (hf : Fr m h h') (hm : h.next ≤ m) : TB n h' l d := by
  rcases ht with ht | ⟨id, h1, h2, h3, h4⟩
  · exact .inl ht
  · exact .inr ⟨id, h1, Nat.lt_of_lt_of_le h2 hf.1, h3, by rw [hf.2.2 id (by omega)]; exact h4⟩
theorem k9 {h : H} (hm : h.marks = []) (s : ByteArray) (hs : s.size ≤ 1000000000) : ∃ d h', callD (cx.at 8) (call cx prim) 9 [.t (.str s)] h = some (.tup [d, .t (.int .i64 (lexS s).2.1), .t (.int .i64 (lexS s).2.2)], h') ∧ Fr h.next h h' ∧ TB h.next h' (lexS s).1 d := by
  obtain ⟨d, h', q, r⟩ := s9 hm s hs
  exact ⟨d, h', keepT cb9 (by simp [md]) q, r⟩
theorem l8 {h : H} {n1 : Nat} {s : ByteArray} {l : List Tk} {d1 d2 v8 : D} {st : St} {r : CR} (hlen : l.length ≤ 1000000) (hd1 : TB 0 h l d1) (hn1 : ∀ id len, d1 = .row id 0 len len → id < n1) (hLp : loopω (LB cx prim 8 Tryd.f8 0) st = r) (en : st.n = 67) (e0 : st.env 0 = .t (.str s)) (e3 : st.env 3 = d1) (e6 : st.env 6 = d2) (e8 : st.env 8 = v8) (e9 : st.env 9 = .t (.int .i64 0)) (eh : st.h = h) :
    ∃ x st', r = some (x, st') ∧ x = .exit 0 ∧ st'.n = 67 ∧ st'.env 0 = .t (.str s) ∧ st'.env 6 = d2 ∧ st'.env 8 = v8 ∧ st'.h.next = h.next ∧ st'.h.marks = h.marks ∧ ∀ id, n1 ≤ id → st'.h.objs id = h.objs id := by
  rcases hd1 with ⟨rfl, rfl⟩ | ⟨id1, _, hid, rfl, ho⟩
  · refine loop_uses hLp 0 (fun k st => st.n = 67 ∧ st.env 0 = .t (.str s) ∧ st.env 3 = .t .nilSlice ∧ st.env 6 = d2 ∧ st.env 8 = v8 ∧ st.env 9 = .t (.int .i64 0) ∧ st.h = h) _ ⟨en, e0, e3, e6, e8, e9, eh⟩ ?_
    rintro k ⟨nn, env, h2⟩ hk ⟨rfl, e0, e3, rfl, rfl, e9, rfl⟩
    simp only at e0 e3 e9
    rw [LB_run nd8 rfl]
    simp -implicitDefEqProofs (disch := omega) [e0, e3, e9, Wp_some]
  · have hlt := hn1 id1 _ rfl
    refine loop_uses hLp l.length (fun k st => st.n = 67 ∧ st.env 0 = .t (.str s) ∧ st.env 3 = .row id1 0 l.length l.length ∧ st.env 6 = d2 ∧ st.env 8 = v8 ∧ st.env 9 = .t (.int .i64 k) ∧ st.h.next = h.next ∧ st.h.marks = h.marks ∧ (∀ id, n1 ≤ id → st.h.objs id = h.objs id) ∧ ∃ ts : List Tk, ts.length = l.length ∧ st.h.objs id1 = some (tobj ts)) _ ⟨en, e0, e3, e6, e8, e9, by rw [eh], by rw [eh], by rw [eh]; exact fun _ _ => rfl, l, rfl, by rw [eh]; exact ho⟩ ?_
    rintro k ⟨nn, env, h2⟩ hk ⟨rfl, e0, e3, rfl, rfl, e9, g1, g2, g3, ts, hts, hob⟩
    simp only at e0 e3 e9 g1 g2 g3 hob
    rw [LB_run nd8 rfl]
    have hls : lenD Tryd.prog h2 22 (.row id1 0 l.length l.length) = some (.t (.int .i64 l.length)) := by simp [-H.els, lenD, tks_els hob hts]
    by_cases hk' : k < l.length
    · have ia := tks_ia hob hts hk'
      have f1 := tks_f1 (i := k) hob hts
      have sx := tks_sx hob hts hk' ⟨#[115, 112, 111, 105, 108, 116]⟩
      have hob2 : (h2.set id1 (tobj (ts.set k { ts[k]'(by omega) with text := ⟨#[115, 112, 111, 105, 108, 116]⟩ }))).objs id1 = some (tobj (ts.set k { ts[k]'(by omega) with text := ⟨#[115, 112, 111, 105, 108, 116]⟩ })) := by simp
      have hts2 : (ts.set k { ts[k]'(by omega) with text := ⟨#[115, 112, 111, 105, 108, 116]⟩ }).length = l.length := by simp [hts]
      generalize hg2 : ts.set k { ts[k]'(by omega) with text := ⟨#[115, 112, 111, 105, 108, 116]⟩ } = ts2 at *
      have ia2 := tks_ia hob2 hts2 hk'
      have f3 := tks_f3 (i := k) hob2 hts2
      have sp := tks_sp hob2 hts2 hk' (-1)
      have hts3 : (ts2.set k { ts2[k]'(by omega) with pos := -1 }).length = l.length := by simp [hts2]
      generalize hg3 : ts2.set k { ts2[k]'(by omega) with pos := -1 } = ts3 at *
      simp -implicitDefEqProofs (disch := omega) [-storeD, -fieldAddrD, -H.els, e0, e3, e9, hls, ia, f1, sx, ia2, f3, sp, Wp_some]
      exact ⟨hk', g1, g2, fun id hid => by
        have : id ≠ id1 := by omega
        simp [this, g3 id hid], ts3, hts3, rfl⟩
    · obtain rfl : k = l.length := by omega
      simp -implicitDefEqProofs (disch := omega) [e0, e3, e9, hls, Wp_some]
      exact ⟨g1, g2, g3⟩
theorem TB.len {n : Nat} {h : H} {l : List Tk} {d : D} (ht : TB n h l d) : lenD Tryd.prog h 22 d = some (.t (.int .i64 l.length)) := by
  rcases ht with ⟨rfl, rfl⟩ | ⟨id, h1, h2, rfl, h4⟩
  · simp [lenD]
  · simp [-H.els, lenD, tks_els h4 rfl]
theorem TB.id_lt {n : Nat} {h : H} {l : List Tk} {d : D} (ht : TB n h l d) : ∀ id len, d = .row id 0 len len → id < h.next := by
  rcases ht with ⟨rfl, rfl⟩ | ⟨id, h1, h2, rfl, h4⟩
  · intro id len e; cases e
  · intro id len e; cases e; exact h2
theorem TB.low {n : Nat} {h : H} {l : List Tk} {d : D} (ht : TB n h l d) : TB 0 h l d := by
  rcases ht with ht | ⟨id, h1, h2, h3, h4⟩
  · exact .inl ht
  · exact .inr ⟨id, by omega, h2, h3, h4⟩
theorem TB.keep {n : Nat} {h h' : H} {l : List Tk} {d : D} (ht : TB n h l d) (hn : h.next ≤ h'.next) (ho : ∀ id, n ≤ id → h'.objs id = h.objs id) : TB n h' l d := by
  rcases ht with ht | ⟨id, h1, h2, h3, h4⟩
  · exact .inl ht
  · exact .inr ⟨id, h1, by omega, h3, by rw [ho id h1]; exact h4⟩
theorem law8 (s : ByteArray) (hs : s.size ≤ 10000000) : ∃ h', call cx prim 8 [.t (.str s)] .empty = some (.t (.bool true), h') := by
  rw [call_run rfl Tryd.func8 ok8 nd8 rfl (Nat.le_of_ble_eq_true rfl) rfl rfl]
  obtain ⟨d1, h1, q1, f1, t1⟩ := k9 (h := .empty) rfl s (by omega)
  have m1 : h1.marks = [] := f1.2.1
  obtain ⟨d2, h2, q2, f2, t2⟩ := k9 (h := h1) m1 s (by omega)
  have m2 : h2.marks = [] := f2.2.1.trans m1
  have q11 := fun h => c11 (c := 8) h rfl
  have hlen := lexS_len s
  have t1' := (t1.mono f2 (Nat.le_refl _)).low
  have l1 := t1'.len
  have l2 := t2.len
  have lemL := fun (v8 : D) (st : St) (r : CR) => l8 (h := h2) (n1 := h1.next) (s := s) (d1 := d1) (d2 := d2) (v8 := v8) (st := st) (r := r) (by omega) t1' t1.id_lt
  have keep3 : ∀ h3 : H, h3.next = h2.next → h3.marks = h2.marks → (∀ id, h1.next ≤ id → h3.objs id = h2.objs id) → ∃ d3 h4, callD (cx.at 8) (call cx prim) 9 [.t (.str s)] h3 = some (.tup [d3, .t (.int .i64 (lexS s).2.1), .t (.int .i64 (lexS s).2.2)], h4) ∧ callD (cx.at 8) (call cx prim) 12 [d2, d3, .t (.bool true)] h4 = some (.t (.bool true), h4) := by
    intro h3 e1 e2 e3
    obtain ⟨d3, h4, q3, f3, t3⟩ := k9 (h := h3) (e2.trans m2) s (by omega)
    have t2' := (t2.keep (by omega) e3).mono f3 (Nat.le_refl _)
    obtain ⟨x, hx, sx⟩ := t2'.tr.snap
    obtain ⟨y, hy, sy⟩ := t3.tr.snap
    exact ⟨d3, h4, q3, c12 (c := 8) (p := true) h4 rfl (by omega) same_refl rfl hx sx hy sy⟩
  generalize (lexS s).2.1 = a at *
  generalize (lexS s).2.2 = w at *
  generalize (lexS s).1 = l at *
  simp -implicitDefEqProofs (disch := omega) [-storeD, -load_ptr, -fieldAddrD, -H.els, q1, q2, q11, l1, l2]
  generalize hLp : loopω (LB cx prim 8 Tryd.f8 0) _ = R
  obtain ⟨x, ⟨nn, env, h3⟩, rfl, rfl, rfl, e0, e6, e8, e1, e2, e3⟩ := lemL (.t (.int .i64 w)) _ _ hLp rfl (by simp) (by simp) (by simp) (by simp) (by simp) rfl
  simp only at e0 e6 e8 e1 e2 e3
  obtain ⟨d3, h4, q3, q12⟩ := keep3 h3 e1 e2 e3
  simp -implicitDefEqProofs (disch := omega) [-storeD, -load_ptr, -fieldAddrD, -H.els, q3, q12, e0, e6, e8]
end Go.Proofs.YtlcbhhmnfmeoeaaDoor
