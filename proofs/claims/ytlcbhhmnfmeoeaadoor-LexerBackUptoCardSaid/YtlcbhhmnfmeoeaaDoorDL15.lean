import Derived.Test.YtlcbhhmnfmeoeaaDoorDL14
set_option linter.unusedSimpArgs false
set_option linter.unusedVariables false
set_option linter.unusedSectionVars false
namespace Go.Proofs.YtlcbhhmnfmeoeaaDoor
open Vai
set_option maxHeartbeats 0
theorem dval_take {l : List UInt8} {k : Nat} {b : UInt8} (hb : l[k]? = some b) : dval (l.take (k + 1)) = dval (l.take k) * 10 + (b.toNat - 48) := by
  have h : k < l.length := by
    apply Classical.byContradiction
    intro h
    rw [List.getElem?_eq_none (by omega)] at hb
    cases hb
  rw [List.take_succ_eq_append_getElem h, dval_snoc]
  rw [List.getElem?_eq_getElem h] at hb
  rw [Option.some.inj hb]
theorem l15 {l : List UInt8} (h1 : l ≠ []) (h19 : l.length ≤ 19) (hall : ∀ b ∈ l, digitB b.toNat = true) {s : ByteArray} {h : H} {st : St} {r : CR} (hLp : loopω (LB cx prim 15 Tryd.f15 0) st = r) (en : st.n = 65) (e0 : st.env 0 = .t (.str s)) (e4 : st.env 4 = .t (.str ⟨l.toArray⟩)) (e5 : st.env 5 = .t (.int .u64 0)) (e6 : st.env 6 = .t (.int .i64 0)) (eh : st.h = h) :
    ∃ x' st', r = some (x', st') ∧ x' = .exit 0 ∧ st'.n = 65 ∧ st'.env 0 = .t (.str s) ∧ st'.env 4 = .t (.str ⟨l.toArray⟩) ∧ st'.env 5 = .t (.int .u64 (dval l)) ∧ st'.h = h := by
  have hsz : (⟨l.toArray⟩ : ByteArray).size = l.length := by simp [ByteArray.size]
  refine loop_uses hLp l.length (fun k st => st.n = 65 ∧ st.env 0 = .t (.str s) ∧ st.env 4 = .t (.str ⟨l.toArray⟩) ∧ st.env 6 = .t (.int .i64 k) ∧ st.env 5 = .t (.int .u64 (dval (l.take k))) ∧ st.h = h) _ ⟨en, e0, e4, e6, by simpa [dval] using e5, eh⟩ ?_
  rintro k ⟨nn, env, h2⟩ hk ⟨rfl, e0, e4, e6, e5, rfl⟩
  simp only at e0 e4 e5 e6
  rw [LB_run nd15 rfl]
  by_cases hk' : k < l.length
  · obtain ⟨b, hb⟩ : ∃ b, l[k]? = some b := ⟨l[k], by simp [hk']⟩
    have hd := hall b (List.mem_of_getElem? hb)
    simp only [digitB, decide_eq_true_eq] at hd
    have hlt := dval_lt k (l.take k) (by simp; omega) fun b hb => hall b (List.mem_of_mem_take hb)
    have h18 : 10 ^ k ≤ 10 ^ 18 := Nat.pow_le_pow_right (by omega) (by omega)
    have e18 : 10 ^ 18 = 1000000000000000000 := by decide
    have ht := dval_take hb
    have c1 : (k : Int) < l.length := by omega
    have w1 : IntKind.wrap .u64 ((dval (l.take k) : Int) * 10) = (dval (l.take k) : Int) * 10 := by simp [IntKind.wrap, show IntKind.u64.signed = false from rfl]; omega
    have w2 : IntKind.wrap .u8 ((b.toNat : Int) - 48) = ((b.toNat - 48 : Nat) : Int) := by
      have := b.toNat_lt
      simp [IntKind.wrap, show IntKind.u8.signed = false from rfl]; omega
    have w3 : IntKind.wrap .u64 ((b.toNat - 48 : Nat) : Int) = ((b.toNat - 48 : Nat) : Int) := by
      simp [IntKind.wrap, show IntKind.u64.signed = false from rfl]; omega
    have w4 : IntKind.wrap .u64 ((dval (l.take k) : Int) * 10 + ((b.toNat - 48 : Nat) : Int)) = (dval (l.take (k + 1)) : Int) := by
      rw [ht]
      simp [IntKind.wrap, show IntKind.u64.signed = false from rfl]; omega
    have hb1 : ∀ (h : k < l.length), l[k] = b := fun h => by rw [List.getElem?_eq_getElem h] at hb; exact Option.some.inj hb
    simp -implicitDefEqProofs (disch := omega) [hsz, e0, e4, e5, e6, hb, hb1, Wp_some, w1, w2, w3, w4]
    exact hk'
  · obtain rfl : k = l.length := by omega
    rw [List.take_length] at e5
    simp -implicitDefEqProofs (disch := omega) [hsz, e0, e4, e5, e6, Wp_some]
theorem s15 {l : List UInt8} (h1 : l ≠ []) (hl : l.length ≤ 100000) (hall : ∀ b ∈ l, digitB b.toNat = true) : ∃ n ok h', call cx prim 15 [.t (.str ⟨l.toArray⟩)] .empty = some (.tup [.t (.int .i64 n), .t (.bool ok)], h') ∧ numS l = if ok = true then some n else none := by
  rw [call_run rfl Tryd.func15 ok15 nd15 rfl (Nat.le_of_ble_eq_true rfl) rfl rfl]
  have hsz : (⟨l.toArray⟩ : ByteArray).size = l.length := by simp [ByteArray.size]
  have hpos : 0 < l.length := List.length_pos_iff.2 h1
  have c1 : (0 : Int) < l.length := by omega
  obtain ⟨b, hb⟩ : ∃ b, l[0]? = some b := ⟨l[0], by simp [hpos]⟩
  have hd := hall b (List.mem_of_getElem? hb)
  simp only [digitB, decide_eq_true_eq] at hd
  have hb1 : ∀ (h : 0 < l.length), l[0] = b := fun h => by rw [List.getElem?_eq_getElem h] at hb; exact Option.some.inj hb
  have n45 : eqI (b.toNat : Int) 45 = false := eqI_false (by omega)
  have c2 : ¬ (l.length : Int) < 1 := by omega
  by_cases h19 : 19 < l.length
  · have c3 : (19 : Int) < l.length := by omega
    simp -implicitDefEqProofs (disch := omega) [hsz, hb, hb1, n45]
    exact numS_long h1 hall h19
  have c3 : ¬ (19 : Int) < l.length := by omega
  have lemL := fun (s : ByteArray) (st : St) (r : CR) (h : H) => l15 (s := s) (h := h) h1 (by omega) hall (st := st) (r := r)
  simp -implicitDefEqProofs (disch := omega) [hsz, hb, hb1, n45]
  generalize hLp : loopω (LB cx prim 15 Tryd.f15 0) _ = R
  obtain ⟨x', ⟨nn, env, h2⟩, rfl, rfl, rfl, e0, e4, e5, rfl⟩ := lemL ⟨l.toArray⟩ _ _ _ hLp rfl (by simp) (by simp) (by simp) (by simp) rfl
  simp only at e0 e4 e5
  have hlt := dval_lt l.length l rfl hall
  have h18 : 10 ^ l.length ≤ 10 ^ 19 := Nat.pow_le_pow_right (by omega) (by omega)
  have e18 : 10 ^ 19 = 10000000000000000000 := by decide
  by_cases hbig : dval l < 9223372036854775808
  · have w1 : IntKind.wrap .i64 (dval l : Int) = (dval l : Int) := by simp [IntKind.wrap, show IntKind.i64.signed = true from rfl]; omega
    have q14 := fun h => c14 (c := 15) (x := (dval l : Int)) h (by omega) (by omega) rfl
    have hde : decL (dval l : Int) = dig (dval l) := by unfold decL; rw [if_neg (by omega)]; rfl
    rw [hde] at q14
    have heq : eqS ⟨(dig (dval l)).toArray⟩ ⟨l.toArray⟩ = decide (dig (dval l) = l) := by simp only [eqS, ba_eq]
    simp -implicitDefEqProofs (disch := omega) [hsz, e0, e4, e5, w1, q14, heq]
    by_cases he : dig (dval l) = l
    · exact ⟨_, .inr ⟨⟨rfl, he⟩, numS_yes h1 hall hbig he⟩⟩
    · exact ⟨_, .inl ⟨⟨rfl, he⟩, numS_no h1 hall (fun h => he h.2)⟩⟩
  · have w1 : IntKind.wrap .i64 (dval l : Int) = (dval l : Int) - 18446744073709551616 := by simp [IntKind.wrap, show IntKind.i64.signed = true from rfl]; omega
    have q14 := fun h => c14 (c := 15) (x := (dval l : Int) - 18446744073709551616) h (by omega) (by omega) rfl
    have heq : eqS ⟨(decL ((dval l : Int) - 18446744073709551616)).toArray⟩ ⟨l.toArray⟩ = false := by
      simp only [eqS, ba_eq, decide_eq_false_iff_not]
      intro e
      unfold decL at e
      rw [if_pos (by omega)] at e
      have := hall 45 (by rw [← e]; simp)
      simp [digitB] at this
    simp -implicitDefEqProofs (disch := omega) [hsz, e0, e4, e5, w1, q14, heq]
    exact numS_no h1 hall (fun h => hbig h.1)
theorem c15 {c : FuncId} {l : List UInt8} (h : H) (h1 : l ≠ []) (hl : l.length ≤ 100000) (hall : ∀ b ∈ l, digitB b.toNat = true) (hm : md c 15 = .pure) : ∃ n ok, callD (cx.at c) (call cx prim) 15 [.t (.str ⟨l.toArray⟩)] h = some (.tup [.t (.int .i64 n), .t (.bool ok)], h) ∧ numS l = if ok = true then some n else none := by
  obtain ⟨n, ok, h', q, e⟩ := s15 h1 hl hall
  exact ⟨n, ok, pureT cb15 hm q (by simp [snapOut]) rfl, e⟩
end Go.Proofs.YtlcbhhmnfmeoeaaDoor
