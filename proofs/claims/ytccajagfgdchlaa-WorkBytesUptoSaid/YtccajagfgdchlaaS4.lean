import Derived.Test.YtccajagfgdchlaaVaiD
import Derived.Test.YtccajagfgdchlaaTryFn
set_option linter.unusedSimpArgs false
set_option linter.unusedVariables false
set_option linter.unusedSectionVars false
namespace Go.Proofs.Ytccajagfgdchlaa
open Vai
def dig (n i : Int) : UInt8 := u8 ((IntKind.u64.wrap n).fdiv (2 ^ (56 - 8 * i).toNat))
def bek (n : Int) (k : Nat) : List UInt8 := (List.range k).map fun (i : Nat) => dig n i
abbrev be8 (n : Int) : List UInt8 := bek n 8
theorem bek_succ (n : Int) (k : Nat) : bek n (k + 1) = bek n k ++ [dig n k] := by simp [bek, List.range_succ]
theorem bek_len (n : Int) (k : Nat) : (bek n k).length = k := by simp [bek]
set_option maxHeartbeats 0
theorem s50 (n : Int) : call cx prim 50 [.t (.int .i64 n)] .empty = some (nrow 5 1 (ub (be8 n)) .empty) := by
  rw [call_run rfl Try.func50 ok50 nd50 rfl (Nat.le_of_ble_eq_true rfl) rfl rfl]
  simp -implicitDefEqProofs
  generalize hL : loopω _ _ = L
  obtain ⟨x, st', rfl, rfl, env, rfl, h2⟩ := loop_uses hL 8
    (fun i st => ∃ env, st = ⟨21, env, (nrow 5 1 (ub (bek n i)) .empty).2⟩ ∧ env 0 = .t (.int .i64 n) ∧ env 4 = .t (.int .i64 i) ∧ env 3 = (nrow 5 1 (ub (bek n i)) .empty).1)
    (fun x st => x = .exit 0 ∧ ∃ env, st = ⟨21, env, (nrow 5 1 (ub (bek n 8)) .empty).2⟩ ∧ env 3 = (nrow 5 1 (ub (bek n 8)) .empty).1)
    ⟨_, rfl, by simp, by simp, by simp [bek, ub, nrow]⟩ (by
    rintro i _ hi ⟨env, rfl, e0, e4, e3⟩
    rw [LB_run nd50 rfl]
    by_cases hi' : i < 8
    · have w6 : IntKind.u8.wrap ((IntKind.u64.wrap n).fdiv (2 ^ (56 - 8 * (i : Int)).toNat)) = (dig n i).toNat := wrap_u8_u8 _
      have ha := append_new (P := Try.prog) (h := .empty) (xs := ub (bek n i)) (ys := [.int .u8 (dig n i).toNat]) (x := .t (.slice [.int .u8 (dig n i).toNat])) tk22 sz5 byt5 zero5 rfl (by decide) rfl rfl (by simp [bek, ub]; omega) (by simp [bek, ub]; omega)
      rw [show ub (bek n i) ++ [.int .u8 ((dig n i).toNat : Int)] = ub (bek n (i + 1)) by rw [bek_succ, ub_append]; rfl] at ha
      simp -implicitDefEqProofs (disch := omega) [litSliceD, e0, e4, e3, hi', w6, ha]
    · obtain rfl : i = 8 := by omega
      simp -implicitDefEqProofs [e4]
      exact e3)
  simp -implicitDefEqProofs [h2]
theorem c50 {c : FuncId} (n : Int) (h : H) (hm : md c 50 = .pure) : callD (cx.at c) (call cx prim) 50 [.t (.int .i64 n)] h = some (.t (sl (ub (be8 n))), h) := pureNew cb50 hm (s50 n) rfl

theorem s18 {b : T} {bs : List UInt8} (n : Int) (hb : Slice b (ub bs)) (hlen : bs.length ≤ 4000000) : call cx prim 18 [.t b, .t (.int .i64 n)] .empty = some (nrow 5 1 (ub (bs ++ be8 n)) .empty) := by
  rw [call_run rfl Try.func18 ok18 nd18 rfl (Nat.le_of_ble_eq_true rfl) rfl rfl]
  have h1 := append_nil (P := Try.prog) (h := .empty) (t := 22) tk22 sz5 byt5 zero5 rfl (by decide) (hb.source _) (ub_cells bs) (by simp [ub_len]; omega) (by simp [ub_len]; omega)
  have h2 := append_new (P := Try.prog) (h := .empty) (t := 22) (xs := ub bs) tk22 sz5 byt5 zero5 rfl (by decide) ((sl_slice _).source _) (ub_cells (be8 n)) (by simp [ub_len, bek_len]; omega) (by simp [ub_len, bek_len]; omega)
  rw [← ub_append] at h2
  simp -implicitDefEqProofs [c50 n _ (c := 18) rfl, h1, h2]
theorem s19 {b : T} {bs : List UInt8} (s : ByteArray) (hb : Slice b (ub bs)) (hlen : bs.length ≤ 2000000) (hs : s.size ≤ 2000000) : call cx prim 19 [.t b, .t (.str s)] .empty = some (nrow 5 1 (ub (bs ++ be8 s.size ++ s.data.toList)) .empty) := by
  rw [call_run rfl Try.func19 ok19 nd19 rfl (Nat.le_of_ble_eq_true rfl) rfl rfl]
  have hsz : s.data.toList.length = s.size := by simp
  have h1 := fun h => ownNew (cc := cx.at 19) (h := h) cb18 rfl (s18 s.size hb (by omega)) rfl
  have h2 := append_new (P := Try.prog) (h := .empty) (t := 22) (x := .t (.str s)) (xs := ub (bs ++ be8 s.size)) (ys := ub s.data.toList) tk22 sz5 byt5 zero5 rfl (by decide) rfl (ub_cells _) (by simp [ub_len, bek_len]; omega) (by simp [ub_len, bek_len]; omega)
  rw [← ub_append] at h2
  simp -implicitDefEqProofs [lenD, h1, h2]
theorem s20 {b : T} {bs : List UInt8} (x : Bool) (hb : Slice b (ub bs)) (hlen : bs.length ≤ 2000000) : call cx prim 20 [.t b, .t (.bool x)] .empty = some (nrow 5 1 (ub (bs ++ [if x then 1 else 0])) .empty) := by
  rw [call_run rfl Try.func20 ok20 nd20 rfl (Nat.le_of_ble_eq_true rfl) rfl rfl]
  have h1 := append_nil (P := Try.prog) (h := .empty) (t := 22) tk22 sz5 byt5 zero5 rfl (by decide) (hb.source _) (ub_cells bs) (by simp [ub_len]; omega) (by simp [ub_len]; omega)
  have h2 := fun c : UInt8 => append_new (P := Try.prog) (h := .empty) (t := 22) (x := .t (.slice (ub [c]))) (xs := ub bs) (ys := ub [c]) tk22 sz5 byt5 zero5 rfl (by decide) rfl (ub_cells _) (by simp [ub_len]; omega) (by simp [ub_len]; omega)
  cases x with
  | true =>
    have := h2 1
    rw [← ub_append] at this
    simp [ub] at this h1
    simp -implicitDefEqProofs [h1, litSliceD, ub, this]
  | false =>
    have := h2 0
    rw [← ub_append] at this
    simp [ub] at this h1
    simp -implicitDefEqProofs [h1, litSliceD, ub, this]
theorem s17 {a b : T} {xs ys : List UInt8} (ha : Slice a (ub xs)) (hb : Slice b (ub ys)) : call cx prim 17 [.t a, .t b] .empty = some (.t (.bool (decide (xs = ys))), .empty) := by
  rw [call_run rfl Try.func17 ok17 nd17 rfl (Nat.le_of_ble_eq_true rfl) rfl rfl]
  have h1 := fun h => conv_bytes (P := Try.prog) (h := h) tk22 tk9 tk5 ha
  have h2 := fun h => conv_bytes (P := Try.prog) (h := h) tk22 tk9 tk5 hb
  simp -implicitDefEqProofs [h1, h2, binD, binStr, eqS, ba_eq]
theorem c17 {c : FuncId} {a b : T} {xs ys : List UInt8} (ha : Slice a (ub xs)) (hb : Slice b (ub ys)) (h : H) (hm : md c 17 = .pure) : callD (cx.at c) (call cx prim) 17 [.t a, .t b] h = some (.t (.bool (decide (xs = ys))), h) := pureT cb17 hm (s17 ha hb) rfl rfl

theorem s73 (n : Nat) (hn : n ≤ 8000000) : call cx prim 73 [.t .nilSlice, .t (.int .i64 n)] .empty = some (if n = 0 then (.t .nilSlice, .empty) else (.row 0 0 0 n, H.push .empty (.row 5 1 (List.replicate n (.t (.int .u8 0)))))) := by
  rw [call_run rfl Try.func73 ok73 nd73 rfl (Nat.le_of_ble_eq_true rfl) rfl rfl]
  have h0 : ¬ ((n : Int) < 0) := by omega
  have h0' : 0 ≤ (n : Int) := by omega
  have w1 : IntKind.i64.wrap (n : Int) = n := wrap_i64 (by omega) (by omega)
  by_cases hp : n = 0
  · subst hp
    simp -implicitDefEqProofs [binD, binInt, capD, lenD]
  · have hp' : 0 < n := by omega
    have hn1 : n < 140737488355328 := by omega
    have hn2 : n ≤ 140737488355328 := by omega
    have hn3 : (n : Int) < 140737488355328 := by omega
    simp -implicitDefEqProofs [binD, binInt, capD, lenD, sliceD, boundD, appendZerosD, h0, w1, hp', hp, hn2, hn3]
theorem c73 {c : FuncId} (n : Nat) (hn : n ≤ 8000000) (h : H) (hm : md c 73 = .own) : callD (cx.at c) (call cx prim) 73 [.t .nilSlice, .t (.int .i64 n)] h = some (if n = 0 then (.t .nilSlice, h) else brow 5 1 [] h) := by
  have hmm : (cx.at c).md 73 = .own := hm
  simp only [callD, show callable (cx.at c).P 73 = true from cb73, if_true, hmm, callOwn, show allM (snap h) [.t .nilSlice, .t (.int .i64 n)] = some [.nilSlice, .int .i64 n] from rfl, List.map_cons, List.map_nil, s73 n hn]
  by_cases hp : n = 0
  · subst hp; rfl
  · simp only [hp, if_false]
    simp -implicitDefEqProofs [ownOut, brow, allM, T.flat.flats]
end Go.Proofs.Ytccajagfgdchlaa
