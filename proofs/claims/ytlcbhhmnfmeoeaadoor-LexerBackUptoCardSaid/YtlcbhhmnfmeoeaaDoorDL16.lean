import Derived.Test.YtlcbhhmnfmeoeaaDoorDL15
set_option linter.unusedSimpArgs false
set_option linter.unusedVariables false
set_option linter.unusedSectionVars false
namespace Go.Proofs.YtlcbhhmnfmeoeaaDoor
open Vai
set_option maxHeartbeats 0
theorem l10a {s : ByteArray} {i : Nat} {d v7 : D} {h : H} (hs : s.size ≤ 100000) (hi : i ≤ s.size) {st : St} {r : CR} (hLp : loopω (LB cx prim 10 Tryd.f10 2) st = r) (en : st.n = 140) (e0 : st.env 0 = .t (.str s)) (e3 : st.env 3 = .ptr 0 0 0 1) (e4 : st.env 4 = d) (e5 : st.env 5 = .t (.int .i64 i)) (e7 : st.env 7 = v7) (eh : st.h = h) :
    ∃ x st', r = some (x, st') ∧ x = .exit 2 ∧ st'.n = 140 ∧ st'.env 0 = .t (.str s) ∧ st'.env 3 = .ptr 0 0 0 1 ∧ st'.env 4 = d ∧ st'.env 5 = .t (.int .i64 (runTo digitB s i : Nat)) ∧ st'.env 7 = v7 ∧ st'.h = h := by
  refine loop_uses hLp (s.size + 1) (fun k st => st.n = 140 ∧ st.env 0 = .t (.str s) ∧ st.env 3 = .ptr 0 0 0 1 ∧ st.env 4 = d ∧ st.env 7 = v7 ∧ st.h = h ∧ ∃ j : Nat, i + k ≤ j ∧ j ≤ s.size ∧ st.env 5 = .t (.int .i64 j) ∧ runTo digitB s j = runTo digitB s i) _ ⟨en, e0, e3, e4, e7, eh, i, by omega, hi, e5, rfl⟩ ?_
  rintro k ⟨nn, env, h2⟩ hk ⟨rfl, e0, e3, rfl, rfl, rfl, j, hj, hjs, e5, hr⟩
  simp only at e0 e3 e5
  rw [LB_run nd10 rfl]
  by_cases hj2 : j < s.size
  · obtain ⟨b, hb, hbt⟩ := bt_get hj2
    have c1 : (j : Int) < s.size := by omega
    have q := fun h => c23 (c := 10) b.toNat h rfl
    cases hd : digitB b.toNat with
    | true =>
      rw [hd] at q
      have hrs := runTo_step (p := digitB) hj2 (by rw [hbt]; exact hd)
      simp -implicitDefEqProofs (disch := omega) [e0, e3, e5, hb, q, Wp_some]
      exact ⟨by omega, j + 1, by omega, by omega, by omega, by rw [hrs, hr]⟩
    | false =>
      rw [hd] at q
      have hrs := runTo_stop (p := digitB) (s := s) (i := j) (by rw [hbt, hd]; simp)
      simp -implicitDefEqProofs (disch := omega) [e0, e3, e5, hb, q, Wp_some]
      rw [← hr, hrs]
  · have hrs := runTo_stop (p := digitB) (s := s) (i := j) (by omega)
    have c1 : ¬ (j : Int) < s.size := by omega
    simp -implicitDefEqProofs (disch := omega) [e0, e3, e5, Wp_some]
    rw [← hr, hrs]
theorem l10b {s : ByteArray} {i : Nat} {d v7 : D} {h : H} (hs : s.size ≤ 100000) (hi : i ≤ s.size) {st : St} {r : CR} (hLp : loopω (LB cx prim 10 Tryd.f10 4) st = r) (en : st.n = 140) (e0 : st.env 0 = .t (.str s)) (e3 : st.env 3 = .ptr 0 0 0 1) (e4 : st.env 4 = d) (e5 : st.env 5 = .t (.int .i64 i)) (e7 : st.env 7 = v7) (eh : st.h = h) :
    ∃ x st', r = some (x, st') ∧ x = .exit 4 ∧ st'.n = 140 ∧ st'.env 0 = .t (.str s) ∧ st'.env 3 = .ptr 0 0 0 1 ∧ st'.env 4 = d ∧ st'.env 5 = .t (.int .i64 (runTo wordB s i : Nat)) ∧ st'.env 7 = v7 ∧ st'.h = h := by
  refine loop_uses hLp (s.size + 1) (fun k st => st.n = 140 ∧ st.env 0 = .t (.str s) ∧ st.env 3 = .ptr 0 0 0 1 ∧ st.env 4 = d ∧ st.env 7 = v7 ∧ st.h = h ∧ ∃ j : Nat, i + k ≤ j ∧ j ≤ s.size ∧ st.env 5 = .t (.int .i64 j) ∧ runTo wordB s j = runTo wordB s i) _ ⟨en, e0, e3, e4, e7, eh, i, by omega, hi, e5, rfl⟩ ?_
  rintro k ⟨nn, env, h2⟩ hk ⟨rfl, e0, e3, rfl, rfl, rfl, j, hj, hjs, e5, hr⟩
  simp only at e0 e3 e5
  rw [LB_run nd10 rfl]
  by_cases hj2 : j < s.size
  · obtain ⟨b, hb, hbt⟩ := bt_get hj2
    have c1 : (j : Int) < s.size := by omega
    have q := fun h => c23 (c := 10) b.toNat h rfl
    have q24 := fun h => c24 (c := 10) b.toNat h rfl
    cases hl : letterB b.toNat with
    | true =>
      rw [hl] at q24
      have hrs := runTo_step (p := wordB) hj2 (by rw [hbt]; simp [wordB, hl])
      simp -implicitDefEqProofs (disch := omega) [e0, e3, e5, hb, q, q24, Wp_some]
      exact ⟨by omega, j + 1, by omega, by omega, by omega, by rw [hrs, hr]⟩
    | false =>
      rw [hl] at q24
      cases hd : digitB b.toNat with
      | true =>
        rw [hd] at q
        have hrs := runTo_step (p := wordB) hj2 (by rw [hbt]; simp [wordB, hd])
        simp -implicitDefEqProofs (disch := omega) [e0, e3, e5, hb, q, q24, Wp_some]
        exact ⟨by omega, j + 1, by omega, by omega, by omega, by rw [hrs, hr]⟩
      | false =>
        rw [hd] at q
        have hrs := runTo_stop (p := wordB) (s := s) (i := j) (by rw [hbt]; simp [wordB, hd, hl])
        simp -implicitDefEqProofs (disch := omega) [e0, e3, e5, hb, q, q24, Wp_some]
        rw [← hr, hrs]
  · have hrs := runTo_stop (p := wordB) (s := s) (i := j) (by omega)
    have c1 : ¬ (j : Int) < s.size := by omega
    simp -implicitDefEqProofs (disch := omega) [e0, e3, e5, Wp_some]
    rw [← hr, hrs]
/-- A slice of tokens, whole. -/
def TR (h : H) (d : D) (l : List Tk) : Prop := (l = [] ∧ d = .t .nilSlice) ∨ ∃ id, id < h.next ∧ d = .row id 0 l.length l.length ∧ h.objs id = some (.row 36 4 ((l.map Tk.t).map .t))
theorem TR.push {h : H} {d : D} {l : List Tk} (ht : TR h d l) (o : AObj) : TR (h.push o) d l := by
  rcases ht with ht | ⟨id, h1, rfl, h3⟩
  · exact .inl ht
  · exact .inr ⟨id, by simp; omega, rfl, by simp only [push_objs, upd_ne _ _ (show id ≠ h.next by omega)]; exact h3⟩
theorem TR.setF {h : H} {d : D} {l : List Tk} (ht : TR h d l) {K : Nat} {a w a' w' : Int} (hK : h.objs K = some (flt a w)) : TR (h.set K (flt a' w')) d l := by
  rcases ht with ht | ⟨id, h1, rfl, h3⟩
  · exact .inl ht
  · have hne : id ≠ K := fun e => by
      subst e
      rw [hK] at h3
      simp [flt] at h3
    exact .inr ⟨id, by simpa using h1, rfl, by simp only [set_objs, upd_ne _ _ hne]; exact h3⟩
theorem tok_add {h : H} {d : D} {l : List Tk} (ht : TR h d l) (hm : h.marks = []) (hlen : l.length ≤ 1000000) (t : Tk) :
    ∃ d' h', appendD Tryd.prog h 22 d (.t (.slice [t.t])) = some (d', h') ∧ TR h' d' (l ++ [t]) ∧ h.next ≤ h'.next ∧ h'.marks = [] ∧ ∀ K a w, K < h.next → h.objs K = some (flt a w) → h'.objs K = some (flt a w) := by
  have hz : ((sz Tryd.prog 36 = some 4) ∧ byt Tryd.prog 36 = some 40) := ⟨sz36, byt36⟩
  rcases ht with ⟨rfl, rfl⟩ | ⟨id, h1, rfl, h3⟩
  · refine ⟨_, _, by simp [appendD, sourceD, Tk.t]; rfl, .inr ⟨h.next, by simp, rfl, by simp [Tk.t]⟩, by simp, by simpa using hm, fun K a w hK ho => ?_⟩
    simp only [push_objs, upd_ne _ _ (show K ≠ h.next by omega)]
    exact ho
  · have he : h.els id l.length = some (36, 4, (l.map Tk.t).map .t) := by simp [H.els, h3]
    have e1 : l.length + 1 < 140737488355328 := by omega
    have e2 : (l.length + 1) * 40 ≤ 140737488355328 := by omega
    have hmm : h.mays id [D.t t.t] = true := mays_trees h id [t.t]
    refine ⟨.row id 0 (l.length + 1) (l.length + 1), h.set id (.row 36 4 ((l.map Tk.t).map .t ++ [.t t.t])), ?_, .inr ⟨id, by simpa using h1, by simp, by simp⟩, by simp, by simpa using hm, fun K a w hK ho => ?_⟩
    · simp [-H.els, -H.mays, appendD, sourceD, he, hmm, e1, e2, show t.t.cells.length = 4 from rfl]
    · have hne : K ≠ id := fun e => by
        subst e
        rw [h3] at ho
        simp [flt] at ho
      simp only [set_objs, upd_ne _ _ hne]
      exact ho
end Go.Proofs.YtlcbhhmnfmeoeaaDoor
