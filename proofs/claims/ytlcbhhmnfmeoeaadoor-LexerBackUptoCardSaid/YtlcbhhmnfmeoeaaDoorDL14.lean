import Derived.Test.YtlcbhhmnfmeoeaaDoorU3
import Derived.Test.YtlcbhhmnfmeoeaaDoorDL13
set_option linter.unusedSimpArgs false
set_option linter.unusedVariables false
set_option linter.unusedSectionVars false
namespace Go.Proofs.YtlcbhhmnfmeoeaaDoor
open Vai
set_option maxHeartbeats 0
theorem append_at {h : H} {id n : Nat} {l ys : List UInt8} {x : D} (ho : h.objs id = some (.row 5 1 ((ub l).map .t))) (hn : n = l.length) (hsrc : sourceD h x = some ((ub ys).map .t)) (hl : l.length + ys.length ≤ 1000000000) :
    appendD Tryd.prog h 40 (.row id 0 n n) x = some (.row id 0 (l ++ ys).length (l ++ ys).length, h.set id (.row 5 1 ((ub (l ++ ys)).map .t))) := by
  subst hn
  have hc : ((ub ys).map D.t).all (fun d => d.cells.length == 1) = true := by
    have := ub_cells ys
    simp only [List.all_eq_true, List.mem_map] at this ⊢
    rintro _ ⟨y, hy, rfl⟩
    have := this y hy
    simpa [D.cells] using this
  have he : h.els id l.length = some (5, 1, (ub l).map .t) := by simp [H.els, ho, ub]
  have hm : h.mays id ((ub ys).map D.t) = true := mays_trees _ _ _
  have hz : (T.int .u8 0).cells.length = 1 := rfl
  unfold appendD
  simp only [tk40, sz5, byt5, zero5, hsrc, hc, hz, he, hm, List.length_map, ub_len, List.length_append]
  simp only [and_self, and_true, true_and, if_true, Nat.le_refl, Nat.lt_add_one, Nat.lt_irrefl, Nat.zero_lt_one]
  rw [if_pos ⟨by omega, by omega⟩]
  simp [ub]
/-- A slice of bytes, whole. -/
def BR (h : H) (d : D) (l : List UInt8) : Prop := (l = [] ∧ d = .t .nilSlice) ∨ ∃ id, id < h.next ∧ d = .row id 0 l.length l.length ∧ h.objs id = some (.row 5 1 ((ub l).map .t))
theorem BR.source {h : H} {d : D} {l : List UInt8} (hb : BR h d l) (o : AObj) : sourceD (h.push o) d = some ((ub l).map .t) := by
  rcases hb with ⟨rfl, rfl⟩ | ⟨id, h1, rfl, h3⟩
  · rfl
  · have he : (h.push o).els id l.length = some (5, 1, (ub l).map .t) := by
      have : (h.push o).objs id = some (.row 5 1 ((ub l).map .t)) := by simp only [push_objs, upd_ne _ _ (show id ≠ h.next by omega)]; exact h3
      simp [H.els, this, ub]
    simp only [sourceD, he]
    rw [if_pos (by simp [ub]), List.drop_zero, List.take_of_length_le (by simp [ub])]
theorem BR.conv {h : H} {d : D} {l : List UInt8} (hb : BR h d l) : convD Tryd.prog h 40 9 d = some (.t (.str ⟨l.toArray⟩)) := by
  rcases hb with ⟨rfl, rfl⟩ | ⟨id, h1, rfl, h3⟩
  · unfold convD
    simp only [tk40, tk9]
    simp
  · have he : h.els id l.length = some (5, 1, (ub l).map .t) := by simp [H.els, h3, ub]
    have hs : snap h (.row id 0 l.length l.length) = some (.slice (ub l)) := by
      rw [snap_def, snapF_row, he]
      simp only [Nat.zero_add, List.length_map, ub_len, Nat.le_refl, if_true, List.drop_zero]
      rw [show ((ub l).map D.t).take l.length = (ub l).map D.t from List.take_of_length_le (by simp [ub]), snapF_map]
      rfl
    unfold convD
    simp only [tk40, tk9, hs]
    simp [byteOf_ub]
theorem l14 {x : Int} {n : Nat} (hn : n < 18446744073709551616) {st : St} {r : CR} (hLp : loopω (LB cx prim 14 Tryd.f14 0) st = r) (en : st.n = 29) (e0 : st.env 0 = .t (.int .i64 x)) (e4 : st.env 4 = .t (.int .u64 n)) (e3 : st.env 3 = .t .nilSlice) :
    ∃ x' st', r = some (x', st') ∧ x' = .exit 0 ∧ st'.n = 29 ∧ st'.env 0 = .t (.int .i64 x) ∧ BR st'.h (st'.env 3) (dig n) := by
  refine loop_uses hLp n (fun k st => st.n = 29 ∧ st.env 0 = .t (.int .i64 x) ∧ ∃ (m : Nat) (out : List UInt8), m + k ≤ n ∧ st.env 4 = .t (.int .u64 m) ∧ BR st.h (st.env 3) out ∧ dig m ++ out = dig n) _ ⟨en, e0, n, [], by omega, e4, .inl ⟨rfl, e3⟩, by simp⟩ ?_
  rintro k ⟨nn, env, h2⟩ hk ⟨rfl, e0, m, out, hm, e4, hb, hd⟩
  simp only at e0 e4 hb
  rw [LB_run nd14 rfl]
  have hlen := dig_len (n := n) (k := 20) (by omega) (by omega)
  rw [← hd] at hlen
  simp only [List.length_append] at hlen
  have hsrc := hb.source (.row 5 1 [.t (.int .u8 ((dchr m).toNat : Int))])
  obtain ⟨d', h', hap, hb'⟩ : ∃ d' h', appendD Tryd.prog (h2.push (.row 5 1 [.t (.int .u8 ((dchr m).toNat : Int))])) 40 (.row h2.next 0 1 1) (env 3) = some (d', h') ∧ BR h' d' (dchr m :: out) :=
    ⟨_, _, append_at (id := h2.next) (n := 1) (l := [dchr m]) (ys := out) (by simp [ub]) rfl hsrc (by simp; omega), .inr ⟨h2.next, by simp, by simp, by simp⟩⟩
  have hc8 : IntKind.wrap .u8 (48 + (m : Int) % 10) = ((dchr m).toNat : Int) := by
    rw [dchr_nat]
    simp [IntKind.wrap]
    omega
  have t1 := tmod_pos' (a := (m : Int)) (b := 10) (by omega)
  have t2 := fdiv_pos' (a := (m : Int)) (b := 10) (by omega)
  by_cases h10 : m < 10
  · have z : (m : Int) / 10 = 0 := by omega
    simp -implicitDefEqProofs (disch := omega) [-storeD, -load_ptr, -H.els, e0, e4, Wp_some, t1, t2, hc8, hap, z, buildSliceD, List.replicate]
    rw [dig_small h10] at hd
    rw [← hd]
    exact hb'
  · have z : eqI ((m : Int) / 10) 0 = false := eqI_false (by omega)
    simp -implicitDefEqProofs (disch := omega) [-storeD, -load_ptr, -H.els, e0, e4, Wp_some, t1, t2, hc8, hap, z, buildSliceD, List.replicate]
    rw [dig_big h10] at hd
    exact ⟨by omega, m / 10, by omega, by omega, dchr m :: out, hb', by simpa using hd⟩
theorem s14 {x : Int} (hx : -9223372036854775808 ≤ x) (hx2 : x < 9223372036854775808) : ∃ h', call cx prim 14 [.t (.int .i64 x)] .empty = some (.t (.str ⟨(decL x).toArray⟩), h') := by
  rw [call_run rfl Tryd.func14 ok14 nd14 rfl (Nat.le_of_ble_eq_true rfl) rfl rfl]
  have lemL := fun (n : Nat) hn (st : St) (r : CR) => l14 (x := x) (n := n) hn (st := st) (r := r)
  have sg : IntKind.u64.signed = false := rfl
  unfold decL
  by_cases hneg : x < 0
  · have w1 : IntKind.wrap .u64 x = x + 18446744073709551616 := by simp [IntKind.wrap, sg]; omega
    have w2 : IntKind.wrap .u64 (-(x + 18446744073709551616)) = (x.natAbs : Int) := by simp [IntKind.wrap, sg]; omega
    rw [if_pos hneg]
    simp -implicitDefEqProofs (disch := omega) [w1, w2]
    generalize hLp : loopω (LB cx prim 14 Tryd.f14 0) _ = R
    obtain ⟨x', ⟨nn, env, h2⟩, rfl, rfl, rfl, e0, hb⟩ := lemL x.natAbs (by omega) _ _ hLp rfl (by simp) (by simp) (by simp)
    simp only at e0 hb
    have cv := hb.conv
    have hlen := dig_len (n := x.natAbs) (k := 20) (by omega) (by omega)
    have hsz : (⟨#[45]⟩ : ByteArray).size + (⟨(dig x.natAbs).toArray⟩ : ByteArray).size ≤ 9223372036854775807 := by simp [ByteArray.size]; omega
    have happ : (⟨#[45]⟩ : ByteArray) ++ (⟨(dig x.natAbs).toArray⟩ : ByteArray) = ⟨(45 :: dig x.natAbs).toArray⟩ := by
      apply ByteArray.ext
      simp
    simp -implicitDefEqProofs (disch := omega) [e0, cv, hsz, happ]
  · have w1 : IntKind.wrap .u64 x = x := by simp [IntKind.wrap, sg]; omega
    have e : x = (x.natAbs : Int) := by omega
    rw [if_neg hneg]
    simp -implicitDefEqProofs (disch := omega) [w1]
    generalize hLp : loopω (LB cx prim 14 Tryd.f14 0) _ = R
    obtain ⟨x', ⟨nn, env, h2⟩, rfl, rfl, rfl, e0, hb⟩ := lemL x.natAbs (by omega) _ _ hLp rfl (by simp) (by simp; omega) (by simp)
    simp only at e0 hb
    have cv := hb.conv
    simp -implicitDefEqProofs (disch := omega) [e0, cv]
theorem c14 {c : FuncId} {x : Int} (h : H) (hx : -9223372036854775808 ≤ x) (hx2 : x < 9223372036854775808) (hm : md c 14 = .pure) : callD (cx.at c) (call cx prim) 14 [.t (.int .i64 x)] h = some (.t (.str ⟨(decL x).toArray⟩), h) := by
  obtain ⟨h', q⟩ := s14 hx hx2
  exact pureT cb14 hm q rfl rfl
end Go.Proofs.YtlcbhhmnfmeoeaaDoor
