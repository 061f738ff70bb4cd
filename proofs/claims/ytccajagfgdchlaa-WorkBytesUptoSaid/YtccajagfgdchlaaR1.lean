import Derived.Test.YtccajagfgdchlaaVaiD
import Derived.Test.YtccajagfgdchlaaTryFn
set_option linter.unusedSimpArgs false
set_option linter.unusedVariables false
set_option linter.unusedSectionVars false
namespace Go.Proofs.Ytccajagfgdchlaa
open Vai
set_option maxHeartbeats 0
/-- A reader's variable: of which type, its bytes, where it is, whether something couldn't be read. -/
abbrev rdO (t : TypeId) (b : T) (p : Nat) (bad : Bool) : AObj := .row t 3 [.t (.agg [b, .int .i64 p, .bool bad])]
/-- Bytes from p on, n of them. -/
def subT (b : T) (p n : Nat) : T := match b with | .slice es => .slice ((es.drop p).take n) | x => x
theorem subT_slice {b : T} {l : List UInt8} (hb : Slice b (ub l)) (p n : Nat) : Slice (subT b p n) (ub ((l.drop p).take n)) := by
  rcases hb with ⟨rfl, hl⟩ | rfl
  · have : l = [] := by simpa [ub] using hl
    subst this
    simp [subT, ub]
    exact .nil
  · have : subT (.slice (ub l)) p n = .slice (ub ((l.drop p).take n)) := by simp [subT, ub, List.map_take, List.map_drop]
    rw [this]
    exact .mk
theorem s60_bad {b : T} {p : Nat} {bad : Bool} {h : H} {id : Nat} {l : List UInt8} {n : Int} (ho : h.objs id = some (rdO 87 b p bad)) (hb : Slice b (ub l)) (hl : l.length ≤ 4000000) (hp : p ≤ l.length) (hn : -9223372036854775808 ≤ n) (hn2 : n ≤ 9223372036854775807) (hbad : bad = true ∨ n < 0 ∨ (l.length : Int) - p < n) :
    call cx prim 60 [.ptr id 0 0 1, .t (.int .i64 n)] h = some (.t .nilSlice, h.set id (rdO 87 b p true)) := by
  rw [call_run rfl Try.func60 ok60 nd60 rfl (Nat.le_of_ble_eq_true rfl) rfl rfl]
  have e1 := fun hh => hb.len (P := Try.prog) (t := 22) tk22 hh
  rw [ub_len] at e1
  cases hbd : bad with
  | true =>
    subst hbd
    simp -implicitDefEqProofs (disch := omega) [ho, hb.cells1]
  | false =>
    subst hbd
    by_cases h1 : n < 0
    · simp -implicitDefEqProofs (disch := omega) [ho, hb.cells1]
    · have h2 : (l.length : Int) - p < n := by
        rcases hbad with h | h | h
        · cases h
        · omega
        · exact h
      simp -implicitDefEqProofs (disch := omega) [ho, hb.cells1, e1]
theorem s60_ok {b : T} {p : Nat} {h : H} {id : Nat} {l : List UInt8} {n : Nat} (ho : h.objs id = some (rdO 87 b p false)) (hb : Slice b (ub l)) (hl : l.length ≤ 4000000) (hp : p + n ≤ l.length) :
    call cx prim 60 [.ptr id 0 0 1, .t (.int .i64 n)] h = some (.t (subT b p n), h.set id (rdO 87 b (p + n) false)) := by
  rw [call_run rfl Try.func60 ok60 nd60 rfl (Nat.le_of_ble_eq_true rfl) rfl rfl]
  have e1 := fun hh => hb.len (P := Try.prog) (t := 22) tk22 hh
  rw [ub_len] at e1
  have e2 : ∀ hh, sliceD Try.prog hh 22 (.t b) (some (.t (.int .i64 p))) (some (.t (.int .i64 (p + n : Int)))) none = some (.t (subT b p n)) := fun hh => by
    rcases hb with ⟨rfl, hl0⟩ | rfl
    · have : l = [] := by simpa [ub] using hl0
      subst this
      have h1 : p = 0 := by simp at hp; omega
      have h2 : n = 0 := by simp at hp; omega
      subst h1 h2
      simp [sliceD, subT]
    · have q1 : allSz 1 (ub l) = true := ub_cells l
      have q2 : ((p : Int) + n).toNat - p = n := by omega
      have q3 : 0 ≤ (p : Int) ∧ (p : Int) ≤ p + n ∧ (p : Int) + n ≤ (ub l).length := by rw [ub_len]; omega
      simp only [sliceD, tk22, sz5, boundD, Option.getD_some]
      rw [if_pos ⟨q3.1, q3.2.1, q3.2.2, .inr q1⟩]
      simp only [subT, Int.toNat_natCast, q2]
  simp -implicitDefEqProofs (disch := omega) [ho, hb.cells1, e1, e2]
  simp only [rdO, Int.natCast_add]
theorem md60 (c : FuncId) : md c 60 = .keep := by simp [md]
theorem c60_bad {c : FuncId} {b : T} {p : Nat} {bad : Bool} {h : H} {id : Nat} {l : List UInt8} {n : Int} (ho : h.objs id = some (rdO 87 b p bad)) (hb : Slice b (ub l)) (hl : l.length ≤ 4000000) (hp : p ≤ l.length) (hn : -9223372036854775808 ≤ n) (hn2 : n ≤ 9223372036854775807) (hbad : bad = true ∨ n < 0 ∨ (l.length : Int) - p < n) :
    callD (cx.at c) (call cx prim) 60 [.ptr id 0 0 1, .t (.int .i64 n)] h = some (.t .nilSlice, h.set id (rdO 87 b p true)) := keepT cb60 (md60 c) (s60_bad ho hb hl hp hn hn2 hbad)
theorem c60_ok {c : FuncId} {b : T} {p : Nat} {h : H} {id : Nat} {l : List UInt8} {n : Nat} (ho : h.objs id = some (rdO 87 b p false)) (hb : Slice b (ub l)) (hl : l.length ≤ 4000000) (hp : p + n ≤ l.length) :
    callD (cx.at c) (call cx prim) 60 [.ptr id 0 0 1, .t (.int .i64 n)] h = some (.t (subT b p n), h.set id (rdO 87 b (p + n) false)) := keepT cb60 (md60 c) (s60_ok ho hb hl hp)
def intR (l : List UInt8) (p : Nat) (bad : Bool) : Int × Nat × Bool := if bad = true ∨ l.length < p + 8 then (0, p, true) else (IntKind.i64.wrap (val ((l.drop p).take 8)), p + 8, false)
theorem take_len {l : List UInt8} {p n : Nat} (h : p + n ≤ l.length) : ((l.drop p).take n).length = n := by simp; omega
theorem wrap_i64_bd (n : Int) : -9223372036854775808 ≤ IntKind.i64.wrap n ∧ IntKind.i64.wrap n ≤ 9223372036854775807 := by
  have e : (2 : Int) ^ (64 : Nat) = 18446744073709551616 := by decide
  have e' : (2 : Int) ^ (64 - 1 : Nat) = 9223372036854775808 := by decide
  simp only [IntKind.wrap, IntKind.bits, IntKind.signed, Bool.true_and, decide_eq_true_eq, e, e']
  split <;> omega
theorem intR_bd (l : List UInt8) (p : Nat) (bad : Bool) (hp : p ≤ l.length) : -9223372036854775808 ≤ (intR l p bad).1 ∧ (intR l p bad).1 ≤ 9223372036854775807 ∧ (intR l p bad).2.1 ≤ l.length := by
  unfold intR
  split
  · simp; omega
  · have := wrap_i64_bd (val ((l.drop p).take 8))
    exact ⟨this.1, this.2, by simp; omega⟩
theorem s26 {b : T} {p : Nat} {bad : Bool} {h : H} {id : Nat} {l : List UInt8} (ho : h.objs id = some (rdO 87 b p bad)) (hb : Slice b (ub l)) (hl : l.length ≤ 4000000) (hp : p ≤ l.length) :
    call cx prim 26 [.ptr id 0 0 1] h = some (.t (.int .i64 (intR l p bad).1), h.set id (rdO 87 b (intR l p bad).2.1 (intR l p bad).2.2)) := by
  rw [call_run rfl Try.func26 ok26 nd26 rfl (Nat.le_of_ble_eq_true rfl) rfl rfl]
  by_cases hbad : bad = true ∨ l.length < p + 8
  · have hc := c60_bad (c := 26) (n := 8) ho hb hl hp (by omega) (by omega) (by rcases hbad with h | h; exact .inl h; exact .inr (.inr (by omega)))
    simp -implicitDefEqProofs (disch := omega) [hc]
    rw [loop_step, LB_run nd26 rfl]
    simp -implicitDefEqProofs (disch := omega) [intR, hbad]
  · have hbf : bad = false := by cases bad <;> simp_all
    subst hbf
    have hle : p + 8 ≤ l.length := by simp at hbad; omega
    have hc : callD (cx.at 26) (call cx prim) 60 [.ptr id 0 0 1, .t (.int .i64 8)] h = some (.t (subT b p 8), h.set id (rdO 87 b (p + 8) false)) := c60_ok (c := 26) (n := 8) ho hb hl hle
    have hx := subT_slice hb p 8
    have hlen := take_len hle
    generalize hsub : subT b p 8 = x at hc hx
    generalize hxs : (l.drop p).take 8 = xs at hx hlen
    have hxe : x = .slice (ub xs) := hx.eq_of_ne fun e => by have := congrArg List.length e; rw [ub_len, hlen] at this; cases this
    subst hxe
    simp -implicitDefEqProofs (disch := omega) [hc, ub_len, hlen]
    generalize hL : loopω _ _ = L
    obtain ⟨x, ⟨nn, env, h2⟩, rfl, rfl, rfl, rfl, h3⟩ := loop_uses hL 8
      (fun i st => st.n = 21 ∧ st.h = h.set id (rdO 87 b (p + 8) false) ∧ st.env 7 = .t (.slice (ub xs)) ∧ st.env 8 = .t (.int .i64 8) ∧ st.env 9 = .t (.int .i64 i) ∧ st.env 3 = .t (.int .u64 (val (xs.take i))))
      (fun x st => x = .exit 0 ∧ st.n = 21 ∧ st.h = h.set id (rdO 87 b (p + 8) false) ∧ st.env 3 = .t (.int .u64 (val xs)))
      (by simp [val_nil]) (by
      rintro i ⟨nn, env, h2⟩ hi ⟨rfl, rfl, e7, e8, e9, e3⟩
      simp only at e7 e8 e9 e3
      rw [LB_run nd26 rfl]
      by_cases hi' : i < 8
      · have hv := val_lt (xs.take i)
        have hl1 : (xs.take i).length = i := by simp; omega
        rw [hl1] at hv
        have hpw : (256 : Nat) ^ i ≤ 256 ^ 7 := Nat.pow_le_pow_right (by omega) (by omega)
        have h7 : (256 : Nat) ^ 7 = 72057594037927936 := by decide
        rw [h7] at hpw
        have hget : (ub xs)[i]? = some (.int .u8 (xs[i].toNat)) := by rw [ub_get, List.getElem?_eq_getElem (by omega)]; rfl
        have hs : val (xs.take (i + 1)) = val (xs.take i) * 256 + xs[i].toNat := by rw [← val_snoc]; simp
        have hc8 := xs[i].toNat_lt
        have ho8 := or8 (n := val (xs.take i)) (c := xs[i].toNat) hc8 (by omega)
        have hw : IntKind.u64.wrap ((xs[i].toNat : Nat) : Int) = xs[i].toNat := wrap_u64 (by omega) (by omega)
        simp -implicitDefEqProofs (disch := omega) [e7, e8, e9, e3, hget, ho8, hw, hs, hi']
      · obtain rfl : i = 8 := by omega
        simp -implicitDefEqProofs (disch := omega) [e7, e8, e9, e3]
        rw [List.take_of_length_le (by omega)])
    simp only at h3
    have hI : intR l p false = (IntKind.i64.wrap (val xs), p + 8, false) := by unfold intR; rw [if_neg hbad, hxs]
    rw [hI]
    simp -implicitDefEqProofs [h3]
section
variable {c : FuncId} {b : T} {p : Nat} {bad : Bool} {h : H} {id : Nat} {l : List UInt8}
theorem c26 (ho : h.objs id = some (rdO 87 b p bad)) (hb : Slice b (ub l)) (hl : l.length ≤ 4000000) (hp : p ≤ l.length) :
    callD (cx.at c) (call cx prim) 26 [.ptr id 0 0 1] h = some (.t (.int .i64 (intR l p bad).1), h.set id (rdO 87 b (intR l p bad).2.1 (intR l p bad).2.2)) := keepT cb26 (by simp [md]) (s26 ho hb hl hp)
def leftR (l : List UInt8) (p : Nat) (bad : Bool) : Int := if bad then 0 else l.length - p
theorem s28 (ho : h.objs id = some (rdO 87 b p bad)) (hb : Slice b (ub l)) (hl : l.length ≤ 4000000) (hp : p ≤ l.length) :
    call cx prim 28 [.ptr id 0 0 1] h = some (.t (.int .i64 (leftR l p bad)), h) := by
  rw [call_run rfl Try.func28 ok28 nd28 rfl (Nat.le_of_ble_eq_true rfl) rfl rfl]
  have e1 := fun hh => hb.len (P := Try.prog) (t := 22) tk22 hh
  rw [ub_len] at e1
  cases hbd : bad <;> subst hbd <;> simp -implicitDefEqProofs (disch := omega) [ho, hb.cells1, e1, leftR]
theorem c28 (ho : h.objs id = some (rdO 87 b p bad)) (hb : Slice b (ub l)) (hl : l.length ≤ 4000000) (hp : p ≤ l.length) :
    callD (cx.at c) (call cx prim) 28 [.ptr id 0 0 1] h = some (.t (.int .i64 (leftR l p bad)), h) := keepT cb28 (by simp [md]) (s28 ho hb hl hp)
theorem s29 (ho : h.objs id = some (rdO 42 b p bad)) (hb : Slice b (ub l)) (hl : l.length ≤ 4000000) (hp : p ≤ l.length) :
    call cx prim 29 [.ptr id 0 0 1] h = some (.t (.int .i64 (leftR l p bad)), h) := by
  rw [call_run rfl Try.func29 ok29 nd29 rfl (Nat.le_of_ble_eq_true rfl) rfl rfl]
  have e1 := fun hh => hb.len (P := Try.prog) (t := 22) tk22 hh
  rw [ub_len] at e1
  cases hbd : bad <;> subst hbd <;> simp -implicitDefEqProofs (disch := omega) [ho, hb.cells1, e1, leftR]
theorem c29 (ho : h.objs id = some (rdO 42 b p bad)) (hb : Slice b (ub l)) (hl : l.length ≤ 4000000) (hp : p ≤ l.length) :
    callD (cx.at c) (call cx prim) 29 [.ptr id 0 0 1] h = some (.t (.int .i64 (leftR l p bad)), h) := keepT cb29 (by simp [md]) (s29 ho hb hl hp)
theorem leftR_bd (hp : p ≤ l.length) : 0 ≤ leftR l p bad ∧ leftR l p bad ≤ l.length := by unfold leftR; split <;> omega
def takeR (l : List UInt8) (p : Nat) (bad : Bool) (n : Int) : List UInt8 × Nat × Bool := if bad = true ∨ n < 0 ∨ (l.length : Int) - p < n then ([], p, true) else ((l.drop p).take n.toNat, p + n.toNat, false)
theorem c60 {n : Int} (ho : h.objs id = some (rdO 87 b p bad)) (hb : Slice b (ub l)) (hl : l.length ≤ 4000000) (hp : p ≤ l.length) (hn : -9223372036854775808 ≤ n) (hn2 : n ≤ 9223372036854775807) :
    ∃ x, callD (cx.at c) (call cx prim) 60 [.ptr id 0 0 1, .t (.int .i64 n)] h = some (.t x, h.set id (rdO 87 b (takeR l p bad n).2.1 (takeR l p bad n).2.2)) ∧ Slice x (ub (takeR l p bad n).1) := by
  by_cases hbad : bad = true ∨ n < 0 ∨ (l.length : Int) - p < n
  · refine ⟨.nilSlice, ?_, ?_⟩
    · rw [c60_bad ho hb hl hp hn hn2 hbad]
      simp [takeR, hbad]
    · simp [takeR, hbad, ub]
      exact .nil
  · have hbf : bad = false := by cases bad <;> simp_all
    subst hbf
    simp at hbad
    obtain ⟨m, rfl⟩ : ∃ m : Nat, n = m := ⟨n.toNat, by omega⟩
    refine ⟨subT b p m, ?_, ?_⟩
    · rw [c60_ok ho hb hl (by omega)]
      simp [takeR, show ¬ (m : Int) < 0 by omega, show ¬ ((l.length : Int) - p < m) by omega]
    · simp [takeR, show ¬ (m : Int) < 0 by omega, show ¬ ((l.length : Int) - p < m) by omega]
      exact subT_slice hb p m
def textR (l : List UInt8) (p : Nat) (bad : Bool) : List UInt8 × Nat × Bool := takeR l (intR l p bad).2.1 (intR l p bad).2.2 (intR l p bad).1
theorem s35 (ho : h.objs id = some (rdO 87 b p bad)) (hb : Slice b (ub l)) (hl : l.length ≤ 4000000) (hp : p ≤ l.length) :
    call cx prim 35 [.ptr id 0 0 1] h = some (.t (.str ⟨(textR l p bad).1.toArray⟩), h.set id (rdO 87 b (textR l p bad).2.1 (textR l p bad).2.2)) := by
  rw [call_run rfl Try.func35 ok35 nd35 rfl (Nat.le_of_ble_eq_true rfl) rfl rfl]
  have q1 := c26 (c := 35) ho hb hl hp
  have bd := intR_bd l p bad hp
  obtain ⟨x, q2, hx⟩ := c60 (c := 35) (bad := (intR l p bad).2.2) (h := h.set id (rdO 87 b (intR l p bad).2.1 (intR l p bad).2.2)) (id := id) (by simp) hb hl bd.2.2 bd.1 bd.2.1
  have q3 := fun hh => conv_bytes (P := Try.prog) (h := hh) tk22 tk9 tk5 hx
  simp -implicitDefEqProofs (disch := omega) [q1, q2, q3]
  exact ⟨rfl, rfl⟩
theorem c35 (ho : h.objs id = some (rdO 87 b p bad)) (hb : Slice b (ub l)) (hl : l.length ≤ 4000000) (hp : p ≤ l.length) :
    callD (cx.at c) (call cx prim) 35 [.ptr id 0 0 1] h = some (.t (.str ⟨(textR l p bad).1.toArray⟩), h.set id (rdO 87 b (textR l p bad).2.1 (textR l p bad).2.2)) := keepT cb35 (by simp [md]) (s35 ho hb hl hp)
def boolR (l : List UInt8) (p : Nat) (bad : Bool) : Bool × Nat × Bool := if bad = true ∨ l.length < p + 1 then (false, p, true) else ((l.getD p 0).toNat == 1, p + 1, decide (1 < (l.getD p 0).toNat))
theorem s36 (ho : h.objs id = some (rdO 87 b p bad)) (hb : Slice b (ub l)) (hl : l.length ≤ 4000000) (hp : p ≤ l.length) :
    call cx prim 36 [.ptr id 0 0 1] h = some (.t (.bool (boolR l p bad).1), h.set id (rdO 87 b (boolR l p bad).2.1 (boolR l p bad).2.2)) := by
  rw [call_run rfl Try.func36 ok36 nd36 rfl (Nat.le_of_ble_eq_true rfl) rfl rfl]
  by_cases hbad : bad = true ∨ l.length < p + 1
  · have hc := c60_bad (c := 36) (n := 1) ho hb hl hp (by omega) (by omega) (by rcases hbad with h | h; exact .inl h; exact .inr (.inr (by omega)))
    simp -implicitDefEqProofs (disch := omega) [hc, boolR, hbad]
  · have hbf : bad = false := by cases bad <;> simp_all
    subst hbf
    have hle : p + 1 ≤ l.length := by simp at hbad; omega
    have hc : callD (cx.at 36) (call cx prim) 60 [.ptr id 0 0 1, .t (.int .i64 1)] h = some (.t (subT b p 1), h.set id (rdO 87 b (p + 1) false)) := c60_ok (c := 36) (n := 1) ho hb hl hle
    have hx := subT_slice hb p 1
    have hxs : (l.drop p).take 1 = [l.getD p 0] := by
      have hlt : p < l.length := by omega
      rw [List.drop_eq_getElem_cons hlt, List.take_succ_cons, List.take_zero, List.getD_eq_getElem?_getD, List.getElem?_eq_getElem hlt]
      rfl
    rw [hxs] at hx
    have hxe := hx.eq_of_ne (by simp [ub])
    rw [hxe] at hc
    have hI : boolR l p false = ((l.getD p 0).toNat == 1, p + 1, decide (1 < (l.getD p 0).toNat)) := by unfold boolR; rw [if_neg hbad]
    rw [hI]
    generalize l.getD p 0 = x at hc
    have hx8 := x.toNat_lt
    by_cases h1 : 1 < x.toNat
    · simp -implicitDefEqProofs (disch := omega) [hc, ub, h1]
      exact ⟨by omega, by simp only [rdO, Int.natCast_add]; rfl⟩
    · by_cases h2 : x.toNat = 1
      · simp -implicitDefEqProofs (disch := omega) [hc, ub, h2]
      · simp -implicitDefEqProofs (disch := omega) [hc, ub, h1, h2]
theorem c36 (ho : h.objs id = some (rdO 87 b p bad)) (hb : Slice b (ub l)) (hl : l.length ≤ 4000000) (hp : p ≤ l.length) :
    callD (cx.at c) (call cx prim) 36 [.ptr id 0 0 1] h = some (.t (.bool (boolR l p bad).1), h.set id (rdO 87 b (boolR l p bad).2.1 (boolR l p bad).2.2)) := keepT cb36 (by simp [md]) (s36 ho hb hl hp)
theorem s37 (ho : h.objs id = some (rdO 87 b p bad)) (hb : Slice b (ub l)) : call cx prim 37 [.ptr id 0 0 1] h = some (.t (.bool bad), h) := by
  rw [call_run rfl Try.func37 ok37 nd37 rfl (Nat.le_of_ble_eq_true rfl) rfl rfl]
  simp -implicitDefEqProofs (disch := omega) [ho, hb.cells1]
theorem c37 (ho : h.objs id = some (rdO 87 b p bad)) (hb : Slice b (ub l)) : callD (cx.at c) (call cx prim) 37 [.ptr id 0 0 1] h = some (.t (.bool bad), h) := keepT cb37 (by simp [md]) (s37 ho hb)
def doneR (l : List UInt8) (p : Nat) (bad : Bool) : Bool := !bad && decide (p = l.length)
theorem s38 (ho : h.objs id = some (rdO 87 b p bad)) (hb : Slice b (ub l)) : call cx prim 38 [.ptr id 0 0 1] h = some (.t (.bool (doneR l p bad)), h) := by
  rw [call_run rfl Try.func38 ok38 nd38 rfl (Nat.le_of_ble_eq_true rfl) rfl rfl]
  have e1 := fun hh => hb.len (P := Try.prog) (t := 22) tk22 hh
  rw [ub_len] at e1
  cases hbd : bad <;> subst hbd <;> simp -implicitDefEqProofs (disch := omega) [ho, hb.cells1, e1, doneR, eqI] <;> omega
theorem c38 (ho : h.objs id = some (rdO 87 b p bad)) (hb : Slice b (ub l)) : callD (cx.at c) (call cx prim) 38 [.ptr id 0 0 1] h = some (.t (.bool (doneR l p bad)), h) := keepT cb38 (by simp [md]) (s38 ho hb)
theorem s43 (ho : h.objs id = some (rdO 42 b p bad)) (hb : Slice b (ub l)) : call cx prim 43 [.ptr id 0 0 1] h = some (.t (.bool (doneR l p bad)), h) := by
  rw [call_run rfl Try.func43 ok43 nd43 rfl (Nat.le_of_ble_eq_true rfl) rfl rfl]
  have e1 := fun hh => hb.len (P := Try.prog) (t := 22) tk22 hh
  rw [ub_len] at e1
  cases hbd : bad <;> subst hbd <;> simp -implicitDefEqProofs (disch := omega) [ho, hb.cells1, e1, doneR, eqI] <;> omega
theorem c43 (ho : h.objs id = some (rdO 42 b p bad)) (hb : Slice b (ub l)) : callD (cx.at c) (call cx prim) 43 [.ptr id 0 0 1] h = some (.t (.bool (doneR l p bad)), h) := keepT cb43 (by simp [md]) (s43 ho hb)
def countR (l : List UInt8) (p : Nat) (bad : Bool) (least : Int) : Int × Nat × Bool :=
  if (intR l p bad).2.2 = true ∨ (intR l p bad).1 < 0 ∨ (leftR l (intR l p bad).2.1 (intR l p bad).2.2).tdiv (if least < 1 then 1 else least) < (intR l p bad).1 then (0, (intR l p bad).2.1, true) else intR l p bad
theorem tdiv_bd {a m : Int} (h : 0 ≤ a) (h2 : a ≤ 4000000) (hm : 1 ≤ m) : 0 ≤ a.tdiv m ∧ a.tdiv m ≤ 4000000 := by
  have h1 : a.tdiv m = a / m := Int.tdiv_eq_ediv_of_nonneg h
  rw [h1]
  have := Int.ediv_nonneg h (show 0 ≤ m by omega)
  have := Int.ediv_le_self m h
  omega
theorem s41 {least : Int} (ho : h.objs id = some (rdO 87 b p bad)) (hb : Slice b (ub l)) (hl : l.length ≤ 4000000) (hp : p ≤ l.length) :
    call cx prim 41 [.ptr id 0 0 1, .t (.int .i64 least)] h = some (.t (.int .i64 (countR l p bad least).1), h.set id (rdO 87 b (countR l p bad least).2.1 (countR l p bad least).2.2)) := by
  rw [call_run rfl Try.func41 ok41 nd41 rfl (Nat.le_of_ble_eq_true rfl) rfl rfl]
  have q1 := c26 (c := 41) ho hb hl hp
  have bd := intR_bd l p bad hp
  unfold countR
  generalize intR l p bad = r at q1 bd
  obtain ⟨n, p1, b1⟩ := r
  simp only at q1 bd ⊢
  have q2 := c28 (c := 41) (b := b) (p := p1) (bad := b1) (h := h.set id (rdO 87 b p1 b1)) (id := id) (l := l) (by simp) hb hl bd.2.2
  have lb := leftR_bd (bad := b1) bd.2.2
  have hm : 1 ≤ (if least < 1 then 1 else least) := by split <;> omega
  have hd := tdiv_bd lb.1 (by omega) hm
  generalize leftR l p1 b1 = lf at q2 lb hd
  generalize hmm : (if least < 1 then (1 : Int) else least) = m at hm hd
  have hw : IntKind.i64.wrap (lf.tdiv m) = lf.tdiv m := wrap_i64 (by omega) (by omega)
  have hm0 : ¬ m = 0 := by omega
  cases hb1 : b1 with
  | true =>
    subst hb1
    simp -implicitDefEqProofs (disch := omega) [q1, hb.cells1]
  | false =>
    subst hb1
    by_cases h1 : n < 0
    · simp -implicitDefEqProofs (disch := omega) [q1, hb.cells1, h1]
    · by_cases h2 : lf.tdiv m < n
      · simp -implicitDefEqProofs (disch := omega) [q1, hb.cells1, h1, q2, hmm, hw, h2]
      · simp -implicitDefEqProofs (disch := omega) [q1, hb.cells1, h1, q2, hmm, hw, h2]
theorem c41 {least : Int} (ho : h.objs id = some (rdO 87 b p bad)) (hb : Slice b (ub l)) (hl : l.length ≤ 4000000) (hp : p ≤ l.length) :
    callD (cx.at c) (call cx prim) 41 [.ptr id 0 0 1, .t (.int .i64 least)] h = some (.t (.int .i64 (countR l p bad least).1), h.set id (rdO 87 b (countR l p bad least).2.1 (countR l p bad least).2.2)) := keepT cb41 (by simp [md]) (s41 ho hb hl hp)
/-! the document's reader -/
theorem s27 (ho : h.objs id = some (rdO 42 b p bad)) (hb : Slice b (ub l)) (hl : l.length ≤ 4000000) (hp : p ≤ l.length) :
    call cx prim 27 [.ptr id 0 0 1] h = some (.t (.int .i64 (intR l p bad).1), h.set id (rdO 42 b (intR l p bad).2.1 (intR l p bad).2.2)) := by
  rw [call_run rfl Try.func27 ok27 nd27 rfl (Nat.le_of_ble_eq_true rfl) rfl rfl]
  have q1 := c29 (c := 27) ho hb hl hp
  by_cases hbad : bad = true ∨ l.length < p + 8
  · have hlt : leftR l p bad < 8 := by
      unfold leftR
      rcases hbad with h | h
      · simp [h]
      · split <;> omega
    simp -implicitDefEqProofs (disch := omega) [q1, ho, hb.cells1, intR, hbad]
  · have hbf : bad = false := by cases bad <;> simp_all
    subst hbf
    have hle : p + 8 ≤ l.length := by simp at hbad; omega
    have hlt : ¬ leftR l p false < 8 := by simp [leftR]; omega
    have hlen := take_len hle
    have hxe : b = .slice (ub l) := hb.eq_of_ne fun e => by have := congrArg List.length e; rw [ub_len] at this; simp at this; subst this; simp at hle
    subst hxe
    generalize hxs : (l.drop p).take 8 = xs at hlen
    simp -implicitDefEqProofs (disch := omega) [q1]
    generalize hL : loopω _ _ = L
    obtain ⟨x, ⟨nn, env, h2⟩, rfl, rfl, rfl, rfl, e0, h3⟩ := loop_uses hL 8
      (fun i st => st.n = 41 ∧ st.h = h ∧ st.env 0 = .ptr id 0 0 1 ∧ st.env 4 = .t (.int .i64 i) ∧ st.env 3 = .t (.int .u64 (val (xs.take i))))
      (fun x st => x = .exit 0 ∧ st.n = 41 ∧ st.h = h ∧ st.env 0 = .ptr id 0 0 1 ∧ st.env 3 = .t (.int .u64 (val xs)))
      (by simp [val_nil]) (by
      rintro i ⟨nn, env, h2⟩ hi ⟨rfl, rfl, e0, e4, e3⟩
      simp only at e0 e4 e3 ho
      rw [LB_run nd27 rfl]
      by_cases hi' : i < 8
      · have hv := val_lt (xs.take i)
        have hl1 : (xs.take i).length = i := by simp; omega
        rw [hl1] at hv
        have hpw : (256 : Nat) ^ i ≤ 256 ^ 7 := Nat.pow_le_pow_right (by omega) (by omega)
        have h7 : (256 : Nat) ^ 7 = 72057594037927936 := by decide
        rw [h7] at hpw
        have hxi : xs[i]? = some (l.getD (p + i) 0) := by
          rw [← hxs, List.getElem?_take, if_pos hi', List.getElem?_drop, List.getD_eq_getElem?_getD, List.getElem?_eq_getElem (by omega)]
          rfl
        have hget : (ub l)[((p : Int) + i).toNat]? = some (.int .u8 (xs[i].toNat)) := by
          rw [show ((p : Int) + i).toNat = p + i by omega, ub_get, List.getElem?_eq_getElem (by omega)]
          rw [List.getElem?_eq_getElem (by omega), List.getD_eq_getElem?_getD, List.getElem?_eq_getElem (show p + i < l.length by omega)] at hxi
          simp only [Option.some.injEq, Option.getD_some] at hxi
          rw [hxi]
          rfl
        have hget2 : (ub l)[p + i]? = some (.int .u8 (xs[i].toNat)) := by rw [← hget]; congr 1
        have hs : val (xs.take (i + 1)) = val (xs.take i) * 256 + xs[i].toNat := by rw [← val_snoc]; simp
        have hc8 := xs[i].toNat_lt
        have hw : IntKind.u64.wrap ((xs[i].toNat : Nat) : Int) = xs[i].toNat := wrap_u64 (by omega) (by omega)
        simp -implicitDefEqProofs (disch := omega) [hget2, e0, e4, e3, ho, hget, hw, hs, hi']
      · obtain rfl : i = 8 := by omega
        simp -implicitDefEqProofs (disch := omega) [e0, e4, e3]
        rw [List.take_of_length_le (by omega)])
    simp only at h3 e0 ho
    have hI : intR l p false = (IntKind.i64.wrap (val xs), p + 8, false) := by unfold intR; rw [if_neg hbad, hxs]
    rw [hI]
    simp -implicitDefEqProofs (disch := omega) [h3, e0, ho]
    simp only [rdO, Int.natCast_add]
    rfl
theorem c27 (ho : h.objs id = some (rdO 42 b p bad)) (hb : Slice b (ub l)) (hl : l.length ≤ 4000000) (hp : p ≤ l.length) :
    callD (cx.at c) (call cx prim) 27 [.ptr id 0 0 1] h = some (.t (.int .i64 (intR l p bad).1), h.set id (rdO 42 b (intR l p bad).2.1 (intR l p bad).2.2)) := keepT cb27 (by simp [md]) (s27 ho hb hl hp)
theorem slice_sub {b : T} {l : List UInt8} {p m : Nat} (hb : Slice b (ub l)) (hle : p + m ≤ l.length) (hh : H) : sliceD Try.prog hh 22 (.t b) (some (.t (.int .i64 p))) (some (.t (.int .i64 (p + m : Int)))) none = some (.t (subT b p m)) := by
  rcases hb with ⟨rfl, hl0⟩ | rfl
  · have : l = [] := by simpa [ub] using hl0
    subst this
    have h1 : p = 0 := by simp at hle; omega
    have h2 : m = 0 := by simp at hle; omega
    subst h1 h2
    simp [sliceD, subT]
  · have q1 : allSz 1 (ub l) = true := ub_cells l
    have q2 : ((p : Int) + m).toNat - p = m := by omega
    have q3 : 0 ≤ (p : Int) ∧ (p : Int) ≤ p + m ∧ (p : Int) + m ≤ (ub l).length := by rw [ub_len]; omega
    simp only [sliceD, tk22, sz5, boundD, Option.getD_some]
    rw [if_pos ⟨q3.1, q3.2.1, q3.2.2, .inr q1⟩]
    simp only [subT, Int.toNat_natCast, q2]
theorem s39 (ho : h.objs id = some (rdO 42 b p bad)) (hb : Slice b (ub l)) (hl : l.length ≤ 4000000) (hp : p ≤ l.length) :
    call cx prim 39 [.ptr id 0 0 1] h = some (.t (.str ⟨(textR l p bad).1.toArray⟩), h.set id (rdO 42 b (textR l p bad).2.1 (textR l p bad).2.2)) := by
  rw [call_run rfl Try.func39 ok39 nd39 rfl (Nat.le_of_ble_eq_true rfl) rfl rfl]
  have q1 := c27 (c := 39) ho hb hl hp
  have bd := intR_bd l p bad hp
  unfold textR
  generalize intR l p bad = r at q1 bd
  obtain ⟨n, p1, b1⟩ := r
  simp only at q1 bd ⊢
  have q2 := c29 (c := 39) (b := b) (p := p1) (bad := b1) (h := h.set id (rdO 42 b p1 b1)) (id := id) (l := l) (by simp) hb hl bd.2.2
  unfold takeR
  cases hb1 : b1 with
  | true =>
    subst hb1
    simp -implicitDefEqProofs (disch := omega) [q1, hb.cells1]
  | false =>
    subst hb1
    have hlf : leftR l p1 false = (l.length : Int) - p1 := rfl
    rw [hlf] at q2
    by_cases h1 : n < 0
    · simp -implicitDefEqProofs (disch := omega) [q1, hb.cells1, h1]
    · by_cases h2 : (l.length : Int) - p1 < n
      · simp -implicitDefEqProofs (disch := omega) [q1, hb.cells1, h1, q2, h2]
      · obtain ⟨m, rfl⟩ : ∃ m : Nat, n = m := ⟨n.toNat, by omega⟩
        have q3 := fun hh => slice_sub (p := p1) (m := m) hb (by omega) hh
        have q4 := fun hh => conv_bytes (P := Try.prog) (h := hh) tk22 tk9 tk5 (subT_slice hb p1 m)
        simp -implicitDefEqProofs (disch := omega) [q1, hb.cells1, h1, q2, h2, q3, q4]
        simp only [rdO, Int.natCast_add]
theorem c39 (ho : h.objs id = some (rdO 42 b p bad)) (hb : Slice b (ub l)) (hl : l.length ≤ 4000000) (hp : p ≤ l.length) :
    callD (cx.at c) (call cx prim) 39 [.ptr id 0 0 1] h = some (.t (.str ⟨(textR l p bad).1.toArray⟩), h.set id (rdO 42 b (textR l p bad).2.1 (textR l p bad).2.2)) := keepT cb39 (by simp [md]) (s39 ho hb hl hp)
theorem s40 (ho : h.objs id = some (rdO 42 b p bad)) (hb : Slice b (ub l)) (hl : l.length ≤ 4000000) (hp : p ≤ l.length) :
    call cx prim 40 [.ptr id 0 0 1] h = some (.t (.bool (boolR l p bad).1), h.set id (rdO 42 b (boolR l p bad).2.1 (boolR l p bad).2.2)) := by
  rw [call_run rfl Try.func40 ok40 nd40 rfl (Nat.le_of_ble_eq_true rfl) rfl rfl]
  have q1 := c29 (c := 40) ho hb hl hp
  by_cases hbad : bad = true ∨ l.length < p + 1
  · have hlt : leftR l p bad < 1 := by
      unfold leftR
      rcases hbad with h | h
      · simp [h]
      · split <;> omega
    simp -implicitDefEqProofs (disch := omega) [q1, ho, hb.cells1, boolR, hbad]
  · have hbf : bad = false := by cases bad <;> simp_all
    subst hbf
    have hle : p + 1 ≤ l.length := by simp at hbad; omega
    have hlt : ¬ leftR l p false < 1 := by simp [leftR]; omega
    have hxe : b = .slice (ub l) := hb.eq_of_ne fun e => by have := congrArg List.length e; rw [ub_len] at this; simp at this; subst this; simp at hle
    subst hxe
    have hget : (ub l)[p]? = some (.int .u8 (l.getD p 0).toNat) := by rw [ub_get, List.getD_eq_getElem?_getD, List.getElem?_eq_getElem (by omega)]; rfl
    have hI : boolR l p false = ((l.getD p 0).toNat == 1, p + 1, decide (1 < (l.getD p 0).toNat)) := by unfold boolR; rw [if_neg hbad]
    rw [hI]
    generalize l.getD p 0 = x at hget
    have hx8 := x.toNat_lt
    by_cases h1 : 1 < x.toNat
    · simp -implicitDefEqProofs (disch := omega) [q1, ho, hget, h1]
      exact ⟨by omega, by simp only [rdO, Int.natCast_add]; rfl⟩
    · by_cases h2 : x.toNat = 1
      · simp -implicitDefEqProofs (disch := omega) [q1, ho, hget, h2]
        simp only [rdO, Int.natCast_add]; rfl
      · simp -implicitDefEqProofs (disch := omega) [q1, ho, hget, h1, h2]
        simp only [rdO, Int.natCast_add]; rfl
theorem c40 (ho : h.objs id = some (rdO 42 b p bad)) (hb : Slice b (ub l)) (hl : l.length ≤ 4000000) (hp : p ≤ l.length) :
    callD (cx.at c) (call cx prim) 40 [.ptr id 0 0 1] h = some (.t (.bool (boolR l p bad).1), h.set id (rdO 42 b (boolR l p bad).2.1 (boolR l p bad).2.2)) := keepT cb40 (by simp [md]) (s40 ho hb hl hp)
theorem s42 {least : Int} (ho : h.objs id = some (rdO 42 b p bad)) (hb : Slice b (ub l)) (hl : l.length ≤ 4000000) (hp : p ≤ l.length) :
    call cx prim 42 [.ptr id 0 0 1, .t (.int .i64 least)] h = some (.t (.int .i64 (countR l p bad least).1), h.set id (rdO 42 b (countR l p bad least).2.1 (countR l p bad least).2.2)) := by
  rw [call_run rfl Try.func42 ok42 nd42 rfl (Nat.le_of_ble_eq_true rfl) rfl rfl]
  have q1 := c27 (c := 42) ho hb hl hp
  have bd := intR_bd l p bad hp
  unfold countR
  generalize intR l p bad = r at q1 bd
  obtain ⟨n, p1, b1⟩ := r
  simp only at q1 bd ⊢
  have q2 := c29 (c := 42) (b := b) (p := p1) (bad := b1) (h := h.set id (rdO 42 b p1 b1)) (id := id) (l := l) (by simp) hb hl bd.2.2
  have lb := leftR_bd (bad := b1) bd.2.2
  have hm : 1 ≤ (if least < 1 then 1 else least) := by split <;> omega
  have hd := tdiv_bd lb.1 (by omega) hm
  generalize leftR l p1 b1 = lf at q2 lb hd
  have key : ∀ m : Int, 1 ≤ m → 0 ≤ lf.tdiv m ∧ lf.tdiv m ≤ 4000000 → IntKind.i64.wrap (lf.tdiv m) = lf.tdiv m := fun m h1 h2 => wrap_i64 (by omega) (by omega)
  have hw := key _ hm hd
  by_cases hls : least < 1
  · rw [if_pos hls] at hm hd hw ⊢
    cases hb1 : b1 with
    | true =>
      subst hb1
      simp -implicitDefEqProofs (disch := omega) [q1, hb.cells1, hls]
    | false =>
      subst hb1
      by_cases h1 : n < 0
      · simp -implicitDefEqProofs (disch := omega) [q1, hb.cells1, h1, hls]
      · by_cases h2 : lf.tdiv 1 < n
        · simp at h2
          simp -implicitDefEqProofs (disch := omega) [q1, hb.cells1, h1, q2, hw, h2, hls]
        · simp at h2
          simp -implicitDefEqProofs (disch := omega) [q1, hb.cells1, h1, q2, hw, h2, hls]
          rw [if_neg (show ¬ lf < n by omega)]
          exact ⟨rfl, rfl⟩
  · rw [if_neg hls] at hm hd hw ⊢
    have hm0 : ¬ least = 0 := by omega
    cases hb1 : b1 with
    | true =>
      subst hb1
      simp -implicitDefEqProofs (disch := omega) [q1, hb.cells1, hls]
    | false =>
      subst hb1
      by_cases h1 : n < 0
      · simp -implicitDefEqProofs (disch := omega) [q1, hb.cells1, h1, hls]
      · by_cases h2 : lf.tdiv least < n
        · simp -implicitDefEqProofs (disch := omega) [q1, hb.cells1, h1, q2, hw, h2, hls]
        · simp -implicitDefEqProofs (disch := omega) [q1, hb.cells1, h1, q2, hw, h2, hls]
theorem c42 {least : Int} (ho : h.objs id = some (rdO 42 b p bad)) (hb : Slice b (ub l)) (hl : l.length ≤ 4000000) (hp : p ≤ l.length) :
    callD (cx.at c) (call cx prim) 42 [.ptr id 0 0 1, .t (.int .i64 least)] h = some (.t (.int .i64 (countR l p bad least).1), h.set id (rdO 42 b (countR l p bad least).2.1 (countR l p bad least).2.2)) := keepT cb42 (by simp [md]) (s42 ho hb hl hp)
end
end Go.Proofs.Ytccajagfgdchlaa
