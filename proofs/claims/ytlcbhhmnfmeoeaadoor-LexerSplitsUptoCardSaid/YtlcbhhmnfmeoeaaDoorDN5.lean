import Derived.Test.YtlcbhhmnfmeoeaaDoorU8
import Derived.Test.YtlcbhhmnfmeoeaaDoorDN1
set_option linter.unusedSimpArgs false
set_option linter.unusedVariables false
set_option linter.unusedSectionVars false
namespace Go.Proofs.YtlcbhhmnfmeoeaaDoor
open Vai
set_option maxHeartbeats 0
theorem law5 (s : ByteArray) (k : Int) (hs : s.size ≤ 10000000) : ∃ h', call cx prim 5 [.t (.str s), .t (.int .i64 k)] .empty = some (.t (.bool true), h') := by
  rw [call_run rfl Tryd.func5 ok5 nd5 rfl (Nat.le_of_ble_eq_true rfl) rfl rfl]
  have q11 := fun h => c11 (c := 5) h rfl
  obtain ⟨x, hx, q9⟩ := c9 (c := 5) s (by omega) rfl
  have hlen := lexS_len s
  generalize hlx : lexS s = res at hx q9 hlen
  obtain ⟨l, a, w⟩ := res
  simp only at hx q9 hlen
  by_cases hw : w = 0
  · subst hw
    have hlx2 := fun hh => hx.len (P := Tryd.prog) (t := 22) tk22 hh
    simp only [List.length_map] at hlx2
    by_cases hk0 : k < 0
    · simp -implicitDefEqProofs (disch := omega) [q9, q11, hlx2]
    by_cases hkl : (l.length : Int) ≤ k
    · simp -implicitDefEqProofs (disch := omega) [q9, q11, hlx2]
    obtain ⟨k, rfl⟩ : ∃ n : Nat, k = n := ⟨k.toNat, by omega⟩
    have hkl' : k < l.length := by omega
    obtain ⟨t, ht⟩ : ∃ t, l[k]? = some t := ⟨l[k], by simp [hkl']⟩
    obtain ⟨p, e1, e2, e3, e4, e5⟩ := lexS_split hlx ht
    have hxe : x = .slice (l.map Tk.t) := hx.eq_of_ne (by intro e; have := congrArg List.length e; simp at this; subst this; simp at hkl')
    subst hxe
    have ht' : (l.map Tk.t)[k]? = some t.t := by rw [List.getElem?_map, ht]; rfl
    have hs1 := size_ext (s := s) (a := 0) (Nat.le_of_lt e2)
    have hs2 := size_ext (s := s) (a := p) (Nat.le_refl _)
    obtain ⟨y, hy, qy⟩ := c9 (c := 5) (s.extract 0 p) (by omega) rfl
    obtain ⟨z, hz, qz⟩ := c9 (c := 5) (s.extract p s.size) (by omega) rfl
    rw [e4] at hy qy
    rw [e5] at hz qz
    simp only at hy qy hz qz
    have sl1 : ∀ h, sliceD Tryd.prog h 9 (.t (.str s)) none (some (.t (.int .i64 p))) none = some (.t (.str (s.extract 0 p))) := fun h => by
      have c2 : (p : Int) ≤ s.size := by omega
      simp [sliceD, boundD, c2]
    have sl2 : ∀ h, sliceD Tryd.prog h 9 (.t (.str s)) (some (.t (.int .i64 p))) none none = some (.t (.str (s.extract p s.size))) := fun h => by
      have c2 : (p : Int) ≤ s.size := by omega
      simp [sliceD, boundD, c2]
    have hall : ∀ m : List Tk, allSz 4 (m.map Tk.t) = true := fun m => by
      induction m with
      | nil => rfl
      | cons a m ih => simp [allSz] at ih ⊢; exact ⟨rfl, ih⟩
    have sl3 : ∀ h, sliceD Tryd.prog h 22 (.t (.slice (l.map Tk.t))) none (some (.t (.int .i64 k))) none = some (.t (.slice ((l.take k).map Tk.t))) := fun h => by
      have c2 : (k : Int) ≤ l.length := by omega
      simp [sliceD, boundD, c2, hall, List.map_take]
    have sl4 : ∀ h, sliceD Tryd.prog h 22 (.t (.slice (l.map Tk.t))) (some (.t (.int .i64 k))) none none = some (.t (.slice ((l.drop k).map Tk.t))) := fun h => by
      have c2 : (k : Int) ≤ l.length := by omega
      simp [sliceD, boundD, c2, hall, List.map_drop]
      exact List.take_of_length_le (by simp)
    have q1 := fun h => c12 (c := 5) (p := true) (x := .t y) (y := .t (.slice ((l.take k).map Tk.t))) h rfl (by simp; omega) same_refl rfl (snap_t _ _) hy (snap_t _ _) .mk
    have q2 := fun h => c12 (c := 5) (p := false) (x := .t z) (y := .t (.slice ((l.drop k).map Tk.t))) h (by simp) (by simp; omega) (fun i a b h1 h2 => by
      rw [List.getElem?_map, h2] at h1
      simp only [Option.map_some, Option.some.injEq] at h1
      subst h1
      exact ⟨rfl, rfl, rfl, fun h => by cases h⟩) rfl (snap_t _ _) hz (snap_t _ _) .mk
    simp only [Tk.t, e1] at ht'
    simp only [List.map_take, List.map_drop] at q1 q2 sl3 sl4
    simp -implicitDefEqProofs (disch := omega) [-List.getElem?_map, q9, q11, hlx2, ht', sl1, sl2, sl3, sl4, qy, qz, q1, q2]
  · have hw' : eqI w 0 = false := eqI_false hw
    simp -implicitDefEqProofs (disch := omega) [q9, q11, hw']
end Go.Proofs.YtlcbhhmnfmeoeaaDoor
