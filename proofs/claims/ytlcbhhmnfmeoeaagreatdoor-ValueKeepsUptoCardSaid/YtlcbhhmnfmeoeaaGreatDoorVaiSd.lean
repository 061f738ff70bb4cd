import Derived.Test.YtlcbhhmnfmeoeaaGreatDoorVaiSa
import Derived.Test.YtlcbhhmnfmeoeaaGreatDoorVaiSc
import Derived.Test.YtlcbhhmnfmeoeaaGreatDoorVaiSb
set_option linter.unusedSimpArgs false
set_option linter.unusedVariables false
set_option linter.unusedSectionVars false
namespace Go.Proofs.YtlcbhhmnfmeoeaaGreatDoor
open Vai
set_option maxHeartbeats 0
/-! utf.Put -/
theorem s92 {r : Int} {h : H} {id : Nat} (sh : Int) (ho : h.objs id = some (.row 21 1 [.t (.int .i32 r)])) (h0 : 0 ≤ r) (h1 : r ≤ 1114111) (hs : sh = 0 ∨ sh = 6 ∨ sh = 12) : call cx prim 92 [.t (.int .i64 sh), .ptr id 0 0 1] h = some (.t (.int .u8 (128 + r / 2 ^ sh.toNat % 64)), h) := by
  rw [call_run (cx := cx) rfl Tryz.func92 ok92 nd92 rfl (Nat.le_of_ble_eq_true rfl) rfl rfl]
  rcases hs with rfl | rfl | rfl
  · simp -implicitDefEqProofs (disch := omega) [ho, and63, or128, wrap_u8_mod]
  · simp -implicitDefEqProofs (disch := omega) [ho, and63, or128, wrap_u8_mod]
    rw [fdiv_pos' (by omega)]
  · simp -implicitDefEqProofs (disch := omega) [ho, and63, or128, wrap_u8_mod]
    rw [fdiv_pos' (by omega)]
theorem c92 {c : FuncId} {r : Int} {h : H} {id : Nat} (sh : Int) (ho : h.objs id = some (.row 21 1 [.t (.int .i32 r)])) (h0 : 0 ≤ r) (h1 : r ≤ 1114111) (hs : sh = 0 ∨ sh = 6 ∨ sh = 12) : callD (cx.at c) (call cx prim) 92 [.t (.int .i64 sh), .ptr id 0 0 1] h = some (.t (.int .u8 (128 + r / 2 ^ sh.toNat % 64)), h) := keepT cb92 (by simp [md]) (s92 sh ho h0 h1 hs)



theorem s71 (r : Int) : ∃ h', call cx prim 71 [.t (.int .i32 r)] .empty = some (.t (.str ⟨(putL r).toArray⟩), h') := by
  rw [call_run (cx := cx) rfl Tryz.func71 ok71 nd71 rfl (Nat.le_of_ble_eq_true rfl) rfl rfl]
  unfold putL
  have d1 : r.fdiv 64 = r / 64 := fdiv_pos' (by omega)
  have d2 : r.fdiv 4096 = r / 4096 := fdiv_pos' (by omega)
  have d3 : r.fdiv 262144 = r / 262144 := fdiv_pos' (by omega)
  by_cases h1 : r < 0
  · simp -implicitDefEqProofs (disch := omega) [h1]
  by_cases h2 : 1114111 < r
  · simp -implicitDefEqProofs (disch := omega) [h1, h2]
  by_cases h3 : 55296 ≤ r
  · have h4 : ¬ r < 128 := by omega
    by_cases h3' : r ≤ 57343
    · simp -implicitDefEqProofs (disch := omega) [h1, h2, h3, h3']
    · have h5 : ¬ r < 2048 := by omega
      by_cases h6 : r < 65536
      · simp -implicitDefEqProofs (disch := first | omega | simp) [h1, h2, h3, h3', h4, h5, h6, wrap_u8_mod, buildSliceD, convD, List.replicate, byteOfT, or224, d2, c92 (r := r)]
        exact ⟨of_u8 (by omega), of_u8 (by omega), of_u8 (by omega)⟩
      · simp -implicitDefEqProofs (disch := first | omega | simp) [h1, h2, h3, h3', h4, h5, h6, wrap_u8_mod, buildSliceD, convD, List.replicate, byteOfT, or240, d3, c92 (r := r)]
        exact ⟨of_u8 (by omega), of_u8 (by omega), of_u8 (by omega), of_u8 (by omega)⟩
  by_cases h4 : r < 128
  · simp -implicitDefEqProofs (disch := omega) [h1, h2, h3, h4, wrap_u8_mod, buildSliceD, convD, List.replicate, byteOfT]
    exact of_u8 (by omega)
  by_cases h5 : r < 2048
  · simp -implicitDefEqProofs (disch := first | omega | simp) [h1, h2, h3, h4, h5, wrap_u8_mod, buildSliceD, convD, List.replicate, byteOfT, or192, d1, c92 (r := r)]
    exact ⟨of_u8 (by omega), of_u8 (by omega)⟩
  · have h6 : r < 65536 := by omega
    simp -implicitDefEqProofs (disch := first | omega | simp) [h1, h2, h3, h4, h5, h6, wrap_u8_mod, buildSliceD, convD, List.replicate, byteOfT, or224, d2, c92 (r := r)]
    exact ⟨of_u8 (by omega), of_u8 (by omega), of_u8 (by omega)⟩
theorem c71 {c : FuncId} (r : Int) (h : H) (hm : md c 71 = .pure) : callD (cx.at c) (call cx prim) 71 [.t (.int .i32 r)] h = some (.t (.str ⟨(putL r).toArray⟩), h) := by
  obtain ⟨h', q⟩ := s71 r
  exact pureT cb71 hm q rfl rfl
/-! pavaneref07.Put -/
theorem s94 {r : Int} (sh n : Int) (h0 : 0 ≤ r) (h1 : r ≤ 1114111) (hs : (sh = 6 ∧ n = 5) ∨ (sh = 0 ∧ n = 6) ∨ (sh = 12 ∧ n = 4) ∨ (sh = 6 ∧ n = 6) ∨ (sh = 18 ∧ n = 3) ∨ (sh = 12 ∧ n = 6)) : call cx prim 94 [.t (.int .i32 r), .t (.int .u64 sh), .t (.int .u64 n)] .empty = some (.t (.int .u8 (r / 2 ^ sh.toNat % 2 ^ n.toNat)), .empty) := by
  rw [call_run (cx := cx) rfl Tryz.func94 ok94 nd94 rfl (Nat.le_of_ble_eq_true rfl) rfl rfl]
  have wr : IntKind.u32.wrap r = r := by
    have e : (2 : Int) ^ (32 : Nat) = 4294967296 := by decide
    simp only [IntKind.wrap, IntKind.bits, IntKind.signed, Bool.false_and, e]
    simp
    omega
  have wc : ∀ c : Int, 0 ≤ c → c < 4294967296 → IntKind.u32.wrap c = c := fun c h0 h1 => by
    have e : (2 : Int) ^ (32 : Nat) = 4294967296 := by decide
    simp only [IntKind.wrap, IntKind.bits, IntKind.signed, Bool.false_and, e]
    simp
    omega
  rcases hs with ⟨rfl, rfl⟩ | ⟨rfl, rfl⟩ | ⟨rfl, rfl⟩ | ⟨rfl, rfl⟩ | ⟨rfl, rfl⟩ | ⟨rfl, rfl⟩
  all_goals simp -implicitDefEqProofs (disch := omega) [wr, wc, wrap_u8_mod]
  all_goals first | rw [fdiv_pos' (by omega), tmod_pos' (by omega)] | rw [tmod_pos' (by omega)]
  all_goals omega
theorem c94 {c : FuncId} {r : Int} (sh n : Int) (h : H) (h0 : 0 ≤ r) (h1 : r ≤ 1114111) (hs : (sh = 6 ∧ n = 5) ∨ (sh = 0 ∧ n = 6) ∨ (sh = 12 ∧ n = 4) ∨ (sh = 6 ∧ n = 6) ∨ (sh = 18 ∧ n = 3) ∨ (sh = 12 ∧ n = 6)) (hm : md c 94 = .pure) : callD (cx.at c) (call cx prim) 94 [.t (.int .i32 r), .t (.int .u64 sh), .t (.int .u64 n)] h = some (.t (.int .u8 (r / 2 ^ sh.toNat % 2 ^ n.toNat)), h) := pureT cb94 hm (s94 sh n h0 h1 hs) rfl rfl
theorem s75 (r : Int) : call cx prim 75 [.t (.int .i32 r)] .empty = some (.t (.bool (decide (0 ≤ r ∧ r ≤ 1114111 ∧ (r < 55296 ∨ 57343 < r)))), .empty) := by
  rw [call_run (cx := cx) rfl Tryz.func75 ok75 nd75 rfl (Nat.le_of_ble_eq_true rfl) rfl rfl]
  by_cases h1 : 0 ≤ r
  · by_cases h2 : r ≤ 1114111
    · by_cases h3 : r < 55296
      · simp -implicitDefEqProofs (disch := omega) [h1, h2, h3]
      · simp -implicitDefEqProofs (disch := omega) [h1, h2, h3, ltI]
    · simp -implicitDefEqProofs (disch := omega) [h1, h2]
  · simp -implicitDefEqProofs (disch := omega) [h1]
theorem c75 {c : FuncId} (r : Int) (h : H) (hm : md c 75 = .pure) : callD (cx.at c) (call cx prim) 75 [.t (.int .i32 r)] h = some (.t (.bool (decide (0 ≤ r ∧ r ≤ 1114111 ∧ (r < 55296 ∨ 57343 < r)))), h) := pureT cb75 hm (s75 r) rfl rfl
/-- What pavaneref07.Put answers: nil, or new bytes. -/
theorem s74 (r : Int) : call cx prim 74 [.t (.int .i32 r)] .empty = some (nrow 5 1 (ub (putL r)) .empty) := by
  rw [call_run (cx := cx) rfl Tryz.func74 ok74 nd74 rfl (Nat.le_of_ble_eq_true rfl) rfl rfl]
  have k := fun h => c75 (c := 74) r h rfl
  by_cases hn : r < 0 ∨ 1114111 < r ∨ (55296 ≤ r ∧ r ≤ 57343)
  · have : decide (0 ≤ r ∧ r ≤ 1114111 ∧ (r < 55296 ∨ 57343 < r)) = false := by simp; omega
    rw [this] at k
    have e : putL r = [] := by unfold putL; rw [if_pos hn]
    rw [e]
    simp -implicitDefEqProofs (disch := omega) [k, nrow, ub]
  have : decide (0 ≤ r ∧ r ≤ 1114111 ∧ (r < 55296 ∨ 57343 < r)) = true := by simp; omega
  rw [this] at k
  have g := fun sh n h hs => c94 (c := 74) (r := r) sh n h (by omega) (by omega) hs rfl
  by_cases h4 : r < 128
  · have e : ub (putL r) = [.int .u8 r] := by unfold putL; rw [if_neg hn, if_pos h4]; simp only [ub, List.map_cons, List.map_nil]; rw [u8_val (by omega) (by omega)]
    rw [e]
    simp -implicitDefEqProofs (disch := omega) [h4, k, wrap_u8_mod, buildSliceD, List.replicate, nrow]
  by_cases h5 : r < 2048
  · have e : ub (putL r) = [.int .u8 (192 + r / 64), .int .u8 (128 + r % 64)] := by
      unfold putL; rw [if_neg hn, if_neg h4, if_pos h5]; simp only [ub, List.map_cons, List.map_nil]; rw [u8_val (by omega) (by omega), u8_val (by omega) (by omega)]
    have w1 : IntKind.u8.wrap (192 + r / 64 % 32) = 192 + r / 64 := by rw [wrap_u8_mod]; omega
    have w2 : IntKind.u8.wrap (128 + r % 64) = 128 + r % 64 := by rw [wrap_u8_mod]; omega
    rw [e]
    simp -implicitDefEqProofs (disch := first | omega | simp) [h4, h5, k, g, w1, w2, buildSliceD, List.replicate, nrow]
  by_cases h6 : r < 65536
  · have e : ub (putL r) = [.int .u8 (224 + r / 4096), .int .u8 (128 + r / 64 % 64), .int .u8 (128 + r % 64)] := by
      unfold putL; rw [if_neg hn, if_neg h4, if_neg h5, if_pos h6]; simp only [ub, List.map_cons, List.map_nil]; rw [u8_val (by omega) (by omega), u8_val (by omega) (by omega), u8_val (by omega) (by omega)]
    have w1 : IntKind.u8.wrap (224 + r / 4096 % 16) = 224 + r / 4096 := by rw [wrap_u8_mod]; omega
    have w2 : ∀ x : Int, IntKind.u8.wrap (128 + x % 64) = 128 + x % 64 := fun x => by rw [wrap_u8_mod]; omega
    rw [e]
    simp -implicitDefEqProofs (disch := first | omega | simp) [h4, h5, h6, k, g, w1, w2, buildSliceD, List.replicate, nrow]
  · have e : ub (putL r) = [.int .u8 (240 + r / 262144), .int .u8 (128 + r / 4096 % 64), .int .u8 (128 + r / 64 % 64), .int .u8 (128 + r % 64)] := by
      unfold putL; rw [if_neg hn, if_neg h4, if_neg h5, if_neg h6]; simp only [ub, List.map_cons, List.map_nil]; rw [u8_val (by omega) (by omega), u8_val (by omega) (by omega), u8_val (by omega) (by omega), u8_val (by omega) (by omega)]
    have w1 : IntKind.u8.wrap (240 + r / 262144 % 8) = 240 + r / 262144 := by rw [wrap_u8_mod]; omega
    have w2 : ∀ x : Int, IntKind.u8.wrap (128 + x % 64) = 128 + x % 64 := fun x => by rw [wrap_u8_mod]; omega
    rw [e]
    simp -implicitDefEqProofs (disch := first | omega | simp) [h4, h5, h6, k, g, w1, w2, buildSliceD, List.replicate, nrow]
theorem c74 {c : FuncId} (r : Int) (h : H) (hm : md c 74 = .pure) : callD (cx.at c) (call cx prim) 74 [.t (.int .i32 r)] h = some (.t (sl (ub (putL r))), h) := pureNew cb74 hm (s74 r) rfl
/-! characters -/
theorem s57 (r : Int) : call cx prim 57 [.t (.int .i32 r)] .empty = some (.t (.bool (charB r)), .empty) := by
  rw [call_run (cx := cx) rfl Tryz.func57 ok57 nd57 rfl (Nat.le_of_ble_eq_true rfl) rfl rfl]
  have k := fun h => c75 (c := 57) r h rfl
  by_cases h1 : 0 ≤ r ∧ r ≤ 1114111 ∧ (r < 55296 ∨ 57343 < r)
  · have e : decide (0 ≤ r ∧ r ≤ 1114111 ∧ (r < 55296 ∨ 57343 < r)) = true := decide_eq_true h1
    rw [e] at k
    by_cases h2 : r = 65534
    · subst h2; simp -implicitDefEqProofs (disch := omega) [k, charB]
    by_cases h3 : r = 65535
    · subst h3; simp -implicitDefEqProofs (disch := omega) [k, charB]
    by_cases h4 : 32 ≤ r
    · simp -implicitDefEqProofs (disch := omega) [k, h2, h3, h4, charB]; omega
    by_cases h5 : r = 9
    · subst h5; simp -implicitDefEqProofs (disch := omega) [k, charB]
    by_cases h6 : r = 10
    · subst h6; simp -implicitDefEqProofs (disch := omega) [k, charB]
    by_cases h7 : r = 13
    · subst h7; simp -implicitDefEqProofs (disch := omega) [k, charB]
    · simp -implicitDefEqProofs (disch := omega) [k, h2, h3, h4, h5, h6, h7, charB]
  · have e : decide (0 ≤ r ∧ r ≤ 1114111 ∧ (r < 55296 ∨ 57343 < r)) = false := decide_eq_false h1
    rw [e] at k
    simp -implicitDefEqProofs (disch := omega) [k, charB]; omega
theorem c57 {c : FuncId} (r : Int) (h : H) (hm : md c 57 = .pure) : callD (cx.at c) (call cx prim) 57 [.t (.int .i32 r)] h = some (.t (.bool (charB r)), h) := pureT cb57 hm (s57 r) rfl rfl
theorem s52 (r : Int) : call cx prim 52 [.t (.int .i32 r)] .empty = some (.t (.bool (charB r)), .empty) := by
  rw [call_run (cx := cx) rfl Tryz.func52 ok52 nd52 rfl (Nat.le_of_ble_eq_true rfl) rfl rfl]
  have k := fun h => c71 (c := 52) r h rfl
  have kn : eqS ⟨(putL r).toArray⟩ ⟨#[]⟩ = decide (¬ (0 ≤ r ∧ r ≤ 1114111 ∧ (r < 55296 ∨ 57343 < r))) := by
    unfold eqS
    have : ((⟨(putL r).toArray⟩ : ByteArray) = ⟨#[]⟩) ↔ putL r = [] := ba_eq (b := [])
    simp only [this, putL_ne]
  by_cases h1 : 0 ≤ r ∧ r ≤ 1114111 ∧ (r < 55296 ∨ 57343 < r)
  · rw [decide_eq_false (fun h => h h1)] at kn
    by_cases h5 : r = 9
    · subst h5; simp -implicitDefEqProofs (disch := omega) [k, kn, charB]
    by_cases h6 : r = 10
    · subst h6; simp -implicitDefEqProofs (disch := omega) [k, kn, charB]
    by_cases h7 : r = 13
    · subst h7; simp -implicitDefEqProofs (disch := omega) [k, kn, charB]
    by_cases h4 : 32 ≤ r
    · by_cases h2 : r = 65534
      · subst h2; simp -implicitDefEqProofs (disch := omega) [k, kn, charB]
      by_cases h3 : r = 65535
      · subst h3; simp -implicitDefEqProofs (disch := omega) [k, kn, charB]
      simp -implicitDefEqProofs (disch := omega) [k, kn, h2, h3, h4, h5, h6, h7, charB]; omega
    · simp -implicitDefEqProofs (disch := omega) [k, kn, h4, h5, h6, h7, charB]
  · rw [decide_eq_true h1] at kn
    have hc : charB r = false := by unfold charB; simp; omega
    rw [hc]
    by_cases h4 : 32 ≤ r
    · simp -implicitDefEqProofs (disch := omega) [k, kn, h4, show ¬ r = 9 by omega, show ¬ r = 10 by omega, show ¬ r = 13 by omega]
    · simp -implicitDefEqProofs (disch := omega) [k, kn, h4, show ¬ r = 9 by omega, show ¬ r = 10 by omega, show ¬ r = 13 by omega]
theorem c52 {c : FuncId} (r : Int) (h : H) (hm : md c 52 = .pure) : callD (cx.at c) (call cx prim) 52 [.t (.int .i32 r)] h = some (.t (.bool (charB r)), h) := pureT cb52 hm (s52 r) rfl rfl
end Go.Proofs.YtlcbhhmnfmeoeaaGreatDoor

namespace Go.Proofs.YtlcbhhmnfmeoeaaGreatDoor
open Vai
set_option maxHeartbeats 0
/-! utf.Next -/
theorem l70 (cs : List UInt8) (hL : cs.length ≤ 3) (r0 : Nat) (hr : r0 < 32) {st : St} {r : CR} {h : H} {a b c : D} (hLp : loopω (LB cx prim 70 Tryz.f70 1) st = r) (en : st.n = 84) (eh : st.h = h) (e0 : st.env 0 = a) (e1 : st.env 1 = b) (e7 : st.env 7 = c) (e61 : st.env 61 = .t (.slice (ub cs))) (e62 : st.env 62 = .t (.int .i64 cs.length)) (e63 : st.env 63 = .t (.int .i64 0)) (e6 : st.env 6 = .t (.int .i32 r0)) :
    ∃ x st', r = some (x, st') ∧ st'.n = 84 ∧ st'.h = h ∧ st'.env 0 = a ∧ st'.env 1 = b ∧ st'.env 7 = c ∧
      (if cs.all (fun c => contB c.toNat) = true then x = .exit 1 ∧ st'.env 6 = .t (.int .i32 (accR r0 cs)) else x = .ret ∧ st'.env 4 = .t (.int .i32 0) ∧ st'.env 5 = .t (.int .i64 0)) := by
  refine loop_uses hLp cs.length (fun k st => st.n = 84 ∧ st.h = h ∧ st.env 0 = a ∧ st.env 1 = b ∧ st.env 7 = c ∧ st.env 61 = .t (.slice (ub cs)) ∧ st.env 62 = .t (.int .i64 cs.length) ∧ st.env 63 = .t (.int .i64 k) ∧ st.env 6 = .t (.int .i32 (accR r0 (cs.take k))) ∧ (cs.take k).all (fun c => contB c.toNat) = true) _ ⟨en, eh, e0, e1, e7, e61, e62, e63, by simpa [accR] using e6, rfl⟩ ?_
  rintro k ⟨nn, env, h2⟩ hk ⟨rfl, rfl, e0, e1, e7, e61, e62, e63, e6, hall⟩
  simp only at e0 e1 e7 e61 e62 e63 e6
  rw [LB_run nd70 rfl]
  by_cases hk' : k < cs.length
  · have hget : (ub cs)[k]? = some (.int .u8 (cs[k].toNat)) := by rw [ub_get, List.getElem?_eq_getElem hk']; rfl
    have h8 := cs[k].toNat_lt
    have hacc : accR r0 (cs.take k) < 32 * 64 ^ 2 := by
      have h1 := accR_lt r0 (cs.take k)
      have h2 : (cs.take k).length = k := by simp; omega
      rw [h2] at h1
      have h3 : (64 : Nat) ^ k ≤ 64 ^ 2 := Nat.pow_le_pow_right (by omega) (by omega)
      exact Nat.lt_of_lt_of_le h1 (Nat.mul_le_mul (by omega) h3)
    have h64 : (32 * 64 ^ 2 : Nat) = 131072 := by decide
    rw [h64] at hacc
    have hsnoc : accR r0 (cs.take (k + 1)) = accR r0 (cs.take k) * 64 + cs[k].toNat % 64 := by rw [← accR_snoc]; simp
    have hs2 : (cs.take (k + 1)).all (fun c => contB c.toNat) = contB cs[k].toNat := by
      rw [show cs.take (k + 1) = cs.take k ++ [cs[k]] by simp, List.all_append, hall]; simp
    have h6 : intBitsT .or .i32 ((accR r0 (cs.take k) : Int) * 64) ((cs[k].toNat % 64 : Nat) : Int) = some ((accR r0 (cs.take k) : Int) * 64 + (cs[k].toNat % 64 : Nat)) := or6 (by omega) (by omega)
    have hw : IntKind.i32.wrap ((accR r0 (cs.take k) : Int) * 64) = (accR r0 (cs.take k) : Int) * 64 := wrap_i32 (by omega) (by omega)
    have hc1 : ((cs[k].toNat % 64 : Nat) : Int) = (cs[k].toNat : Int) % 64 := by omega
    rw [hc1] at h6
    by_cases hc : contB cs[k].toNat = true
    · have hcc : (cs[k].toNat : Int) / 64 * 64 = 128 := by simp only [contB, beq_iff_eq] at hc; omega
      simp -implicitDefEqProofs (disch := omega) [e0, e1, e7, e61, e62, e63, e6, hget, and192, and63, hcc, h6, hw, hk', Wp_some]
      exact ⟨by rw [hsnoc]; omega, by simpa using hs2.trans hc⟩
    · have hcc : ¬ (cs[k].toNat : Int) / 64 * 64 = 128 := by simp only [contB, beq_iff_eq] at hc; omega
      have hnall : ¬ cs.all (fun c => contB c.toNat) = true := fun h => hc (by rw [List.all_eq_true] at h; exact h _ (List.getElem_mem hk'))
      simp -implicitDefEqProofs (disch := omega) [e0, e1, e7, e61, e62, e63, e6, hget, and192, and63, hcc, h6, hw, hk', Wp_some, hnall]
  · obtain rfl : k = cs.length := by omega
    rw [List.take_length] at e6 hall
    simp -implicitDefEqProofs (disch := omega) [e0, e1, e7, e61, e62, e63, e6, hall, Wp_some]
theorem sl_str {s : ByteArray} {a b : Int} (h : H) (h0 : 0 ≤ a) (h1 : a ≤ b) (h2 : b ≤ s.size) : sliceD Tryz.prog h 9 (.t (.str s)) (some (.t (.int .i64 a))) (some (.t (.int .i64 b))) none = some (.t (.str (s.extract a.toNat b.toNat))) := by
  simp [sliceD, h0, h1, h2]
theorem s70 (s : ByteArray) (i : Nat) (hs : s.size ≤ 1000000000) : ∃ h', call cx prim 70 [.t (.str s), .t (.int .i64 i)] .empty = some (.tup [.t (.int .i32 (nx s i).1), .t (.int .i64 (nx s i).2)], h') := by
  rw [call_run (cx := cx) rfl Tryz.func70 ok70 nd70 rfl (Nat.le_of_ble_eq_true rfl) rfl rfl]
  by_cases hi : s.size ≤ i
  · have e : nx s i = (0, 0) := by unfold nx; rw [if_pos hi]
    rw [e]
    simp -implicitDefEqProofs (disch := omega) []
  obtain ⟨b, hb, hbt⟩ := bt_get (s := s) (i := i) (by omega)
  have hb8 := b.toNat_lt
  by_cases c1 : b.toNat < 128
  · have e : nx s i = ((b.toNat : Int), 1) := by unfold nx; rw [if_neg hi]; simp only [hbt]; rw [if_pos c1]
    rw [e]
    simp -implicitDefEqProofs (disch := omega) [hb, c1]
  by_cases c2 : b.toNat < 192
  · have e : nx s i = (0, 0) := by unfold nx; rw [if_neg hi]; simp only [hbt]; rw [if_neg c1, if_pos c2]
    rw [e]
    simp -implicitDefEqProofs (disch := omega) [hb, c1, c2]
  by_cases c3 : b.toNat < 224
  · have : 192 ≤ bt s i ∧ bt s i < 224 := by omega
    have e := nx_multi (s := s) (i := i) (n := 2) (r0 := bt s i % 32) (by omega) (by omega)
    by_cases hm : i + 2 ≤ s.size
    · have hcl : ((s.data.toList.drop (i + 1)).take 1).length = 1 := by simp; omega
      have exb : bytesT (s.extract (i + 1) (i + 1 + 1)) = ub ((s.data.toList.drop (i + 1)).take 1) := by rw [ub_bytes, extract_bytes]
      have i1 : ((i : Int) + 1).toNat = i + 1 := by omega
      have i2 : ((i : Int) + 2).toNat = i + 1 + 1 := by omega
      simp only [show 2 - 1 = 1 from rfl, hm, true_and] at e
      have lemL := fun (st : St) (r : CR) (h : H) => l70 (st := st) (r := r) (h := h) ((s.data.toList.drop (i + 1)).take 1) (by omega) (bt s i % 32) (by omega) (a := .t (.str s)) (b := .t (.int .i64 i)) (c := .t (.int .i64 2))
      generalize ((s.data.toList.drop (i + 1)).take 1) = cs at hcl exb e lemL
      have hr0 : (((bt s i % 32 : Nat)) : Int) = (b.toNat : Int) % 32 := by omega
      rw [hr0] at lemL
      simp -implicitDefEqProofs (disch := omega) [hb, c1, c2, c3, and31, sl_str, i1, i2, exb, ub_len, hcl]
      generalize hLp : loopω _ _ = L
      obtain ⟨x, st', rfl, q1, q2, q3, q4, q5, q6⟩ := lemL _ _ _ hLp rfl rfl (by simp) (by simp) (by simp) (by simp) (by simp [hcl]) (by simp) (by simp)
      obtain ⟨nn, env, h2⟩ := st'
      simp only at q1 q2 q3 q4 q5 q6
      subst q1 q2
      by_cases hall : cs.all (fun c => contB c.toNat) = true
      · rw [if_pos hall] at q6
        obtain ⟨rfl, q6⟩ := q6
        have k := fun h => c71 (c := 70) (accR (bt s i % 32) cs) h rfl
        have hsz : (⟨(putL (accR (bt s i % 32) cs)).toArray⟩ : ByteArray).size = (putL (accR (bt s i % 32) cs)).length := by simp [ByteArray.size]
        by_cases hp : (putL (accR (bt s i % 32) cs)).length = 2
        · rw [if_pos ⟨hall, hp⟩] at e
          rw [e]
          simp -implicitDefEqProofs (disch := omega) [q3, q4, q5, q6, k, hsz, hp]
        · rw [if_neg (fun h => hp h.2)] at e
          rw [e]
          have hp' : eqI ((putL (accR (bt s i % 32) cs)).length : Int) 2 = false := eqI_false (by omega)
          simp -implicitDefEqProofs (disch := omega) [q3, q4, q5, q6, k, hsz, hp']
      · rw [if_neg hall] at q6
        obtain ⟨rfl, q6, q7⟩ := q6
        rw [if_neg (fun h => hall h.1)] at e
        rw [e]
        simp -implicitDefEqProofs (disch := omega) [q6, q7]
    · rw [if_neg (fun h => hm h.1)] at e
      rw [e]
      simp -implicitDefEqProofs (disch := omega) [hb, c1, c2, c3, and31]
  by_cases c4 : b.toNat < 240
  · have : 224 ≤ bt s i ∧ bt s i < 240 := by omega
    have e := nx_multi (s := s) (i := i) (n := 3) (r0 := bt s i % 16) (by omega) (by omega)
    by_cases hm : i + 3 ≤ s.size
    · have hcl : ((s.data.toList.drop (i + 1)).take 2).length = 2 := by simp; omega
      have exb : bytesT (s.extract (i + 1) (i + 1 + 2)) = ub ((s.data.toList.drop (i + 1)).take 2) := by rw [ub_bytes, extract_bytes]
      have i1 : ((i : Int) + 1).toNat = i + 1 := by omega
      have i2 : ((i : Int) + 3).toNat = i + 1 + 2 := by omega
      simp only [show 3 - 1 = 2 from rfl, hm, true_and] at e
      have lemL := fun (st : St) (r : CR) (h : H) => l70 (st := st) (r := r) (h := h) ((s.data.toList.drop (i + 1)).take 2) (by omega) (bt s i % 16) (by omega) (a := .t (.str s)) (b := .t (.int .i64 i)) (c := .t (.int .i64 3))
      generalize ((s.data.toList.drop (i + 1)).take 2) = cs at hcl exb e lemL
      have hr0 : (((bt s i % 16 : Nat)) : Int) = (b.toNat : Int) % 16 := by omega
      rw [hr0] at lemL
      simp -implicitDefEqProofs (disch := omega) [hb, c1, c2, c3, c4, and15, sl_str, i1, i2, exb, ub_len, hcl]
      generalize hLp : loopω _ _ = L
      obtain ⟨x, st', rfl, q1, q2, q3, q4, q5, q6⟩ := lemL _ _ _ hLp rfl rfl (by simp) (by simp) (by simp) (by simp) (by simp [hcl]) (by simp) (by simp)
      obtain ⟨nn, env, h2⟩ := st'
      simp only at q1 q2 q3 q4 q5 q6
      subst q1 q2
      by_cases hall : cs.all (fun c => contB c.toNat) = true
      · rw [if_pos hall] at q6
        obtain ⟨rfl, q6⟩ := q6
        have k := fun h => c71 (c := 70) (accR (bt s i % 16) cs) h rfl
        have hsz : (⟨(putL (accR (bt s i % 16) cs)).toArray⟩ : ByteArray).size = (putL (accR (bt s i % 16) cs)).length := by simp [ByteArray.size]
        by_cases hp : (putL (accR (bt s i % 16) cs)).length = 3
        · rw [if_pos ⟨hall, hp⟩] at e
          rw [e]
          simp -implicitDefEqProofs (disch := omega) [q3, q4, q5, q6, k, hsz, hp]
        · rw [if_neg (fun h => hp h.2)] at e
          rw [e]
          have hp' : eqI ((putL (accR (bt s i % 16) cs)).length : Int) 3 = false := eqI_false (by omega)
          simp -implicitDefEqProofs (disch := omega) [q3, q4, q5, q6, k, hsz, hp']
      · rw [if_neg hall] at q6
        obtain ⟨rfl, q6, q7⟩ := q6
        rw [if_neg (fun h => hall h.1)] at e
        rw [e]
        simp -implicitDefEqProofs (disch := omega) [q6, q7]
    · rw [if_neg (fun h => hm h.1)] at e
      rw [e]
      simp -implicitDefEqProofs (disch := omega) [hb, c1, c2, c3, c4, and15]
  by_cases c5 : b.toNat < 248
  · have : 240 ≤ bt s i ∧ bt s i < 248 := by omega
    have e := nx_multi (s := s) (i := i) (n := 4) (r0 := bt s i % 8) (by omega) (by omega)
    by_cases hm : i + 4 ≤ s.size
    · have hcl : ((s.data.toList.drop (i + 1)).take 3).length = 3 := by simp; omega
      have exb : bytesT (s.extract (i + 1) (i + 1 + 3)) = ub ((s.data.toList.drop (i + 1)).take 3) := by rw [ub_bytes, extract_bytes]
      have i1 : ((i : Int) + 1).toNat = i + 1 := by omega
      have i2 : ((i : Int) + 4).toNat = i + 1 + 3 := by omega
      simp only [show 4 - 1 = 3 from rfl, hm, true_and] at e
      have lemL := fun (st : St) (r : CR) (h : H) => l70 (st := st) (r := r) (h := h) ((s.data.toList.drop (i + 1)).take 3) (by omega) (bt s i % 8) (by omega) (a := .t (.str s)) (b := .t (.int .i64 i)) (c := .t (.int .i64 4))
      generalize ((s.data.toList.drop (i + 1)).take 3) = cs at hcl exb e lemL
      have hr0 : (((bt s i % 8 : Nat)) : Int) = (b.toNat : Int) % 8 := by omega
      rw [hr0] at lemL
      simp -implicitDefEqProofs (disch := omega) [hb, c1, c2, c3, c4, c5, and7, sl_str, i1, i2, exb, ub_len, hcl]
      generalize hLp : loopω _ _ = L
      obtain ⟨x, st', rfl, q1, q2, q3, q4, q5, q6⟩ := lemL _ _ _ hLp rfl rfl (by simp) (by simp) (by simp) (by simp) (by simp [hcl]) (by simp) (by simp)
      obtain ⟨nn, env, h2⟩ := st'
      simp only at q1 q2 q3 q4 q5 q6
      subst q1 q2
      by_cases hall : cs.all (fun c => contB c.toNat) = true
      · rw [if_pos hall] at q6
        obtain ⟨rfl, q6⟩ := q6
        have k := fun h => c71 (c := 70) (accR (bt s i % 8) cs) h rfl
        have hsz : (⟨(putL (accR (bt s i % 8) cs)).toArray⟩ : ByteArray).size = (putL (accR (bt s i % 8) cs)).length := by simp [ByteArray.size]
        by_cases hp : (putL (accR (bt s i % 8) cs)).length = 4
        · rw [if_pos ⟨hall, hp⟩] at e
          rw [e]
          simp -implicitDefEqProofs (disch := omega) [q3, q4, q5, q6, k, hsz, hp]
        · rw [if_neg (fun h => hp h.2)] at e
          rw [e]
          have hp' : eqI ((putL (accR (bt s i % 8) cs)).length : Int) 4 = false := eqI_false (by omega)
          simp -implicitDefEqProofs (disch := omega) [q3, q4, q5, q6, k, hsz, hp']
      · rw [if_neg hall] at q6
        obtain ⟨rfl, q6, q7⟩ := q6
        rw [if_neg (fun h => hall h.1)] at e
        rw [e]
        simp -implicitDefEqProofs (disch := omega) [q6, q7]
    · rw [if_neg (fun h => hm h.1)] at e
      rw [e]
      simp -implicitDefEqProofs (disch := omega) [hb, c1, c2, c3, c4, c5, and7]
  · have e : nx s i = (0, 0) := by unfold nx; rw [if_neg hi]; simp only [hbt]; rw [if_neg c1, if_neg c2, if_neg c3, if_neg c4, if_neg c5]
    rw [e]
    simp -implicitDefEqProofs (disch := omega) [hb, c1, c2, c3, c4, c5]
theorem c70 {c : FuncId} (s : ByteArray) (i : Nat) (h : H) (hs : s.size ≤ 1000000000) (hm : md c 70 = .pure) : callD (cx.at c) (call cx prim) 70 [.t (.str s), .t (.int .i64 i)] h = some (.tup [.t (.int .i32 (nx s i).1), .t (.int .i64 (nx s i).2)], h) := by
  obtain ⟨h', q⟩ := s70 s i hs
  exact pureT cb70 hm q (by simp [snapOut]) rfl
end Go.Proofs.YtlcbhhmnfmeoeaaGreatDoor

namespace Go.Proofs.YtlcbhhmnfmeoeaaGreatDoor
open Vai
set_option maxHeartbeats 0
/-! utf.Bad -/
theorem s51 (s : ByteArray) (hs : s.size ≤ 1000000000) : ∃ h', call cx prim 51 [.t (.str s)] .empty = some (.t (.int .i64 (bad s 0)), h') := by
  rw [call_run (cx := cx) rfl Tryz.func51 ok51 nd51 rfl (Nat.le_of_ble_eq_true rfl) rfl rfl]
  simp -implicitDefEqProofs (disch := omega) []
  generalize hLp : loopω _ _ = L
  obtain ⟨x, ⟨nn, env, h2⟩, rfl, rfl, hx⟩ := loop_uses hLp s.size
    (fun k st => st.n = 22 ∧ ∃ i : Nat, k ≤ i ∧ i ≤ s.size ∧ st.env 0 = .t (.str s) ∧ st.env 3 = .t (.int .i64 i) ∧ bad s i = bad s 0)
    (fun x st => st.n = 22 ∧ ((x = .exit 0 ∧ bad s 0 = -1) ∨ (x = .ret ∧ st.env 2 = .t (.int .i64 (bad s 0)))))
    (by refine ⟨rfl, 0, ?_⟩; simp) (by
    rintro k ⟨nn, env, h2⟩ hk ⟨rfl, i, hki, his, e0, e3, hb⟩
    simp only at e0 e3
    rw [LB_run nd51 rfl]
    by_cases hi : i < s.size
    · have q := fun h => c70 (c := 51) s i h hs rfl
      have hle := nx_le hi
      rw [bad, if_neg (by omega)] at hb
      by_cases hn : (nx s i).2 = 0
      · rw [if_pos hn] at hb
        simp -implicitDefEqProofs (disch := omega) [e0, e3, q, hn, Wp_some]
        exact hb
      · rw [if_neg hn] at hb
        have hn' : eqI ((nx s i).2 : Int) 0 = false := eqI_false (by omega)
        simp -implicitDefEqProofs (disch := omega) [e0, e3, q, hn', Wp_some]
        exact ⟨by omega, i + (nx s i).2, by omega, by omega, by omega, hb⟩
    · rw [bad, if_pos (by omega)] at hb
      simp -implicitDefEqProofs (disch := omega) [e0, e3, Wp_some, ← hb])
  rcases hx with ⟨rfl, hb⟩ | ⟨rfl, hb⟩
  · simp -implicitDefEqProofs (disch := omega) [hb]
  · simp only at hb
    simp -implicitDefEqProofs (disch := omega) [hb]
theorem c51 {c : FuncId} (s : ByteArray) (h : H) (hs : s.size ≤ 1000000000) (hm : md c 51 = .pure) : callD (cx.at c) (call cx prim) 51 [.t (.str s)] h = some (.t (.int .i64 (bad s 0)), h) := by
  obtain ⟨h', q⟩ := s51 s hs
  exact pureT cb51 hm q rfl rfl
/-! pavaneref07.Next -/
theorem l56 {s : ByteArray} {i n : Nat} (hs : s.size ≤ 1000000000) (h1 : 1 ≤ n) (h4 : n ≤ 4) (hle : i + n ≤ s.size) {st : St} {r : CR} {h : H} (hLp : loopω (LB cx prim 56 Tryz.f56 2) st = r) (en : st.n = 69) (eh : st.h = h) (e0 : st.env 0 = .t (.str s)) (e1 : st.env 1 = .t (.int .i64 i)) (e6 : st.env 6 = .t (.int .i64 n)) (e7 : st.env 7 = .t (.int .i32 0)) (e8 : st.env 8 = .t (.int .i64 0)) :
    ∃ x st', r = some (x, st') ∧ x = .exit 2 ∧ st'.n = 69 ∧ st'.h = h ∧ st'.env 0 = .t (.str s) ∧ st'.env 1 = .t (.int .i64 i) ∧ st'.env 6 = .t (.int .i64 n) ∧ st'.env 7 = .t (.int .i32 (refR s i n n)) := by
  refine loop_uses hLp n (fun k st => st.n = 69 ∧ st.h = h ∧ st.env 0 = .t (.str s) ∧ st.env 1 = .t (.int .i64 i) ∧ st.env 6 = .t (.int .i64 n) ∧ st.env 8 = .t (.int .i64 k) ∧ st.env 7 = .t (.int .i32 (refR s i n k))) _ ⟨en, eh, e0, e1, e6, e8, e7⟩ ?_
  rintro k ⟨nn, env, h2⟩ hk ⟨rfl, rfl, e0, e1, e6, e8, e7⟩
  simp only at e0 e1 e6 e8 e7
  rw [LB_run nd56 rfl]
  by_cases hk' : k < n
  · obtain ⟨b, hb, hbt⟩ := bt_get (s := s) (i := i + k) (by omega)
    have hb8 := b.toNat_lt
    have g1 : ((i : Int) + k).toNat = i + k := by omega
    match k, hk' with
    | 0, _ =>
      simp only [Nat.add_zero] at hb hbt
      by_cases hn1 : n = 1
      · subst hn1
        simp -implicitDefEqProofs (disch := omega) [e0, e1, e6, e8, e7, hb, Wp_some, refR, hbt]
      · have n4 : n = 2 ∨ n = 3 ∨ n = 4 := by omega
        rcases n4 with rfl | rfl | rfl
        all_goals simp -implicitDefEqProofs (disch := omega) [e0, e1, e6, e8, e7, hb, Wp_some, refR, hbt]
        all_goals exact tmod_pos' (by omega)
    | k + 1, hk1 =>
      have hlt := refR_lt s i n h1 h4 (k + 1) (by omega)
      have hp : 256 * 64 ^ (k + 1 - 1) ≤ 256 * 64 ^ 2 := Nat.mul_le_mul_left _ (Nat.pow_le_pow_right (by omega) (by omega))
      have h64 : 256 * 64 ^ 2 = 1048576 := by decide
      have hlt2 : refR s i n (k + 1) < 1048576 := by omega
      have g2 : ((i : Int) + ((k : Int) + 1)).toNat = i + (k + 1) := by omega
      have g4 : 0 ≤ (i : Int) + ((k : Int) + 1) := by omega
      have g3 : (b.toNat : Int).tmod 64 = (b.toNat : Int) % 64 := tmod_pos' (by omega)
      simp -implicitDefEqProofs (disch := omega) [e0, e1, e6, e8, e7, g2, g3, g4, hb, Wp_some, refR, hbt]
      omega
  · obtain rfl : k = n := by omega
    simp -implicitDefEqProofs (disch := omega) [e0, e1, e6, e8, e7, Wp_some]
theorem s56 (s : ByteArray) (i : Nat) (hs : s.size ≤ 1000000000) : ∃ h', call cx prim 56 [.t (.str s), .t (.int .i64 i)] .empty = some (.tup [.t (.int .i32 (nx s i).1), .t (.int .i64 (nx s i).2)], h') := by
  rw [call_run (cx := cx) rfl Tryz.func56 ok56 nd56 rfl (Nat.le_of_ble_eq_true rfl) rfl rfl]
  by_cases hi : s.size ≤ i
  · have e : nx s i = (0, 0) := by unfold nx; rw [if_pos hi]
    rw [e]
    simp -implicitDefEqProofs (disch := omega) []
  simp -implicitDefEqProofs (disch := omega) []
  generalize hLp : loopω _ _ = L
  obtain ⟨x, ⟨nn, env, h2⟩, rfl, rfl, hx⟩ := loop_uses hLp 4
    (fun k st => st.n = 69 ∧ k ≤ 4 ∧ st.env 0 = .t (.str s) ∧ st.env 1 = .t (.int .i64 i) ∧ st.env 6 = .t (.int .i64 (k + 1 : Nat)) ∧ ∀ n, 1 ≤ n → n ≤ k → (nx s i).2 ≠ n)
    (fun x st => st.n = 69 ∧ ((x = .exit 0 ∧ nx s i = (0, 0)) ∨ (x = .ret ∧ st.env 4 = .t (.int .i32 (nx s i).1) ∧ st.env 5 = .t (.int .i64 (nx s i).2))))
    (by refine ⟨rfl, by omega, by simp, by simp, by simp, fun n h1 h2 => by omega⟩) (by
    rintro k ⟨nn, env, h2⟩ hk ⟨rfl, hk4, e0, e1, e6, hno⟩
    simp only at e0 e1 e6
    rw [LB_run nd56 rfl]
    have none : (nx s i).2 = 0 → nx s i = (0, 0) := fun h => by
      unfold nx at h ⊢
      rw [if_neg hi] at h ⊢
      simp only at h ⊢
      repeat' split
      all_goals first | rfl | (exfalso; simp_all)
    by_cases hk' : k < 4 ∧ i + (k + 1) ≤ s.size
    · have f1 : ((k + 1 : Nat) : Int) ≤ 4 := by omega
      have f2 : ((k + 1 : Nat) : Int) ≤ s.size - i := by omega
      have ll := fun (st : St) (r : CR) (h : H) => l56 (s := s) (i := i) (n := k + 1) (st := st) (r := r) (h := h) hs (by omega) (by omega) hk'.2
      have hiff := nx_ref (s := s) (i := i) (n := k + 1) (by omega) (by omega) hk'.2
      have exb := extract_bytes s i (k + 1)
      have g2 : ((i : Int) + ((k : Int) + 1)).toNat = i + (k + 1) := by omega
      have kk := fun h => c74 (c := 56) (refR s i (k + 1) (k + 1)) h rfl
      have cb := fun h => conv_bytes (P := Tryz.prog) (h := h) tk56 tk9 tk5 (sl_slice (ub (putL (refR s i (k + 1) (k + 1)))))
      simp -implicitDefEqProofs (disch := omega) [e0, e1, e6]
      generalize hLp : loopω _ _ = L
      obtain ⟨x, ⟨nn, env, h3⟩, rfl, rfl, q1, q2, q3, q4, q5, q6⟩ := ll _ _ _ hLp rfl rfl (by simp [e0]) (by simp [e1]) (by simp [e6]) (by simp) (by simp)
      simp only at q1 q2 q3 q4 q5 q6
      subst q1 q2
      have g1 : ((i : Int)).toNat = i := by omega
      have g5 : i + (k + 1) ≤ s.size := hk'.2
      have exs := sl_str (s := s) (a := i) (b := (i : Int) + ((k : Int) + 1))
      by_cases hm : putL (refR s i (k + 1) (k + 1)) = (s.data.toList.drop i).take (k + 1)
      · have e := hiff.1 hm
        have hme : eqS ⟨(putL (refR s i (k + 1) (k + 1))).toArray⟩ (s.extract i (i + (k + 1))) = true := by
          apply decide_eq_true
          rw [hm, ← exb]
        have e1' : (nx s i).1 = (refR s i (k + 1) (k + 1) : Nat) := by rw [e]
        have e2' : (nx s i).2 = k + 1 := by rw [e]
        simp -implicitDefEqProofs (disch := omega) [q3, q4, q5, q6, kk, cb, exs, g2, hme, Wp_some, e1', e2']
      · have hme : eqS ⟨(putL (refR s i (k + 1) (k + 1))).toArray⟩ (s.extract i (i + (k + 1))) = false := by
          apply decide_eq_false
          intro h
          apply hm
          rw [← exb, ← h]
        have hne : (nx s i).2 ≠ k + 1 := fun h => by
          have hs2 := nx_some (s := s) (i := i) (by omega)
          rw [h] at hs2
          exact hm (hiff.2 hs2.2.2)
        simp -implicitDefEqProofs (disch := omega) [q3, q4, q5, q6, kk, cb, exs, g2, hme, Wp_some]
        refine ⟨by omega, by omega, fun n h1 h2 => ?_⟩
        by_cases h3 : n = k + 1
        · rw [h3]; exact hne
        · exact hno n h1 (by omega)
    · have h0 : (nx s i).2 = 0 := by
        by_cases h0 : (nx s i).2 = 0
        · exact h0
        · exfalso
          have hs2 := nx_some (s := s) (i := i) h0
          exact hno (nx s i).2 (by omega) (by omega) rfl
      have hz := none h0
      by_cases h5 : k + 1 ≤ 4
      · have h5' : ((k : Int) + 1) ≤ 4 := by omega
        have h6 : ¬ ((k : Int) + 1) ≤ s.size - i := by omega
        simp -implicitDefEqProofs (disch := omega) [e0, e1, e6, Wp_some, hz]
      · have h5' : ¬ ((k : Int) + 1) ≤ 4 := by omega
        simp -implicitDefEqProofs (disch := omega) [e0, e1, e6, Wp_some, hz])
  rcases hx with ⟨rfl, hb⟩ | ⟨rfl, hb, hb2⟩
  · simp -implicitDefEqProofs (disch := omega) [hb]
  · simp only at hb hb2
    simp -implicitDefEqProofs (disch := omega) [hb, hb2]
theorem c56 {c : FuncId} (s : ByteArray) (i : Nat) (h : H) (hs : s.size ≤ 1000000000) (hm : md c 56 = .pure) : callD (cx.at c) (call cx prim) 56 [.t (.str s), .t (.int .i64 i)] h = some (.tup [.t (.int .i32 (nx s i).1), .t (.int .i64 (nx s i).2)], h) := by
  obtain ⟨h', q⟩ := s56 s i hs
  exact pureT cb56 hm q (by simp [snapOut]) rfl
end Go.Proofs.YtlcbhhmnfmeoeaaGreatDoor

namespace Go.Proofs.YtlcbhhmnfmeoeaaGreatDoor
open Vai
set_option maxHeartbeats 0
theorem append_at {h : H} {id n : Nat} {l ys : List UInt8} {x : D} (ho : h.objs id = some (.row 5 1 ((ub l).map .t))) (hn : n = l.length) (hsrc : sourceD h x = some ((ub ys).map .t)) (hl : l.length + ys.length ≤ 1000000000) :
    appendD Tryz.prog h 56 (.row id 0 n n) x = some (.row id 0 (l ++ ys).length (l ++ ys).length, h.set id (.row 5 1 ((ub (l ++ ys)).map .t))) := by
  subst hn
  have hc : ((ub ys).map D.t).all (fun d => d.cells.length == 1) = true := by
    have := ub_cells ys
    simp only [List.all_eq_true, List.mem_map] at this ⊢
    rintro _ ⟨y, hy, rfl⟩
    have := this y hy
    simpa [D.cells] using this
  have he : h.els id l.length = some (5, 1, (ub l).map .t) := by simp [H.els, ho, ub]
  have hm : h.mays id ((ub ys).map D.t) = true := mays_trees _ _ _
  have hz : (T.int .u8 0).cells.length = 1 := rfl
  unfold appendD
  simp only [tk56, sz5, byt5, zero5, hsrc, hc, hz, he, hm, List.length_map, ub_len, List.length_append]
  simp only [and_self, and_true, true_and, if_true, Nat.le_refl, Nat.lt_add_one, Nat.lt_irrefl, Nat.zero_lt_one]
  rw [if_pos ⟨by omega, by omega⟩]
  simp [ub]
/-- A slice of bytes, whole. -/
def BR (h : H) (d : D) (l : List UInt8) : Prop := (l = [] ∧ d = .t .nilSlice) ∨ ∃ id, id < h.next ∧ d = .row id 0 l.length l.length ∧ h.objs id = some (.row 5 1 ((ub l).map .t))
theorem BR.source {h : H} {d : D} {l : List UInt8} (hb : BR h d l) (o : AObj) : sourceD (h.push o) d = some ((ub l).map .t) := by
  rcases hb with ⟨rfl, rfl⟩ | ⟨id, h1, rfl, h3⟩
  · rfl
  · have he : (h.push o).els id l.length = some (5, 1, (ub l).map .t) := by
      have : (h.push o).objs id = some (.row 5 1 ((ub l).map .t)) := by simp only [push_objs, upd_ne _ _ (show id ≠ h.next by omega)]; exact h3
      simp [H.els, this, ub]
    simp only [sourceD, he]
    rw [if_pos (by simp [ub]), List.drop_zero, List.take_of_length_le (by simp [ub])]
theorem BR.conv {h : H} {d : D} {l : List UInt8} (hb : BR h d l) : convD Tryz.prog h 56 9 d = some (.t (.str ⟨l.toArray⟩)) := by
  rcases hb with ⟨rfl, rfl⟩ | ⟨id, h1, rfl, h3⟩
  · unfold convD
    simp only [tk56, tk9]
    simp
  · have he : h.els id l.length = some (5, 1, (ub l).map .t) := by simp [H.els, h3, ub]
    have hs : snap h (.row id 0 l.length l.length) = some (.slice (ub l)) := by
      rw [snap_def, snapF_row, he]
      simp only [Nat.zero_add, List.length_map, ub_len, Nat.le_refl, if_true, List.drop_zero]
      rw [show ((ub l).map D.t).take l.length = (ub l).map D.t from List.take_of_length_le (by simp [ub]), snapF_map]
      rfl
    unfold convD
    simp only [tk56, tk9, hs]
    simp [byteOf_ub]
theorem l42 {x : Int} {n : Nat} (hn : n < 18446744073709551616) {st : St} {r : CR} (hLp : loopω (LB cx prim 42 Tryz.f42 0) st = r) (en : st.n = 29) (e0 : st.env 0 = .t (.int .i64 x)) (e4 : st.env 4 = .t (.int .u64 n)) (e3 : st.env 3 = .t .nilSlice) :
    ∃ x' st', r = some (x', st') ∧ x' = .exit 0 ∧ st'.n = 29 ∧ st'.env 0 = .t (.int .i64 x) ∧ BR st'.h (st'.env 3) (dig n) := by
  refine loop_uses hLp n (fun k st => st.n = 29 ∧ st.env 0 = .t (.int .i64 x) ∧ ∃ (m : Nat) (out : List UInt8), m + k ≤ n ∧ st.env 4 = .t (.int .u64 m) ∧ BR st.h (st.env 3) out ∧ dig m ++ out = dig n) _ ⟨en, e0, n, [], by omega, e4, .inl ⟨rfl, e3⟩, by simp⟩ ?_
  rintro k ⟨nn, env, h2⟩ hk ⟨rfl, e0, m, out, hm, e4, hb, hd⟩
  simp only at e0 e4 hb
  rw [LB_run nd42 rfl]
  have hlen := dig_len (n := n) (k := 20) (by omega) (by omega)
  rw [← hd] at hlen
  simp only [List.length_append] at hlen
  have hsrc := hb.source (.row 5 1 [.t (.int .u8 ((dchr m).toNat : Int))])
  obtain ⟨d', h', hap, hb'⟩ : ∃ d' h', appendD Tryz.prog (h2.push (.row 5 1 [.t (.int .u8 ((dchr m).toNat : Int))])) 56 (.row h2.next 0 1 1) (env 3) = some (d', h') ∧ BR h' d' (dchr m :: out) :=
    ⟨_, _, append_at (id := h2.next) (n := 1) (l := [dchr m]) (ys := out) (by simp [ub]) rfl hsrc (by simp; omega), .inr ⟨h2.next, by simp, by simp, by simp⟩⟩
  have hc8 : IntKind.wrap .u8 (48 + (m : Int) % 10) = ((dchr m).toNat : Int) := by
    rw [dchr_nat]
    simp [IntKind.wrap]
    omega
  have t1 := tmod_pos' (a := (m : Int)) (b := 10) (by omega)
  have t2 := fdiv_pos' (a := (m : Int)) (b := 10) (by omega)
  by_cases h10 : m < 10
  · have z : (m : Int) / 10 = 0 := by omega
    simp -implicitDefEqProofs (disch := omega) [-storeD, -load_ptr, -H.els, e0, e4, Wp_some, t1, t2, hc8, hap, z, buildSliceD, List.replicate]
    rw [dig_small h10] at hd
    rw [← hd]
    exact hb'
  · have z : eqI ((m : Int) / 10) 0 = false := eqI_false (by omega)
    simp -implicitDefEqProofs (disch := omega) [-storeD, -load_ptr, -H.els, e0, e4, Wp_some, t1, t2, hc8, hap, z, buildSliceD, List.replicate]
    rw [dig_big h10] at hd
    exact ⟨by omega, m / 10, by omega, by omega, dchr m :: out, hb', by simpa using hd⟩
theorem s42 {x : Int} (hx : -9223372036854775808 ≤ x) (hx2 : x < 9223372036854775808) : ∃ h', call cx prim 42 [.t (.int .i64 x)] .empty = some (.t (.str ⟨(decL x).toArray⟩), h') := by
  rw [call_run (cx := cx) rfl Tryz.func42 ok42 nd42 rfl (Nat.le_of_ble_eq_true rfl) rfl rfl]
  have lemL := fun (n : Nat) hn (st : St) (r : CR) => l42 (x := x) (n := n) hn (st := st) (r := r)
  have sg : IntKind.u64.signed = false := rfl
  unfold decL
  by_cases hneg : x < 0
  · have w1 : IntKind.wrap .u64 x = x + 18446744073709551616 := by simp [IntKind.wrap, sg]; omega
    have w2 : IntKind.wrap .u64 (-(x + 18446744073709551616)) = (x.natAbs : Int) := by simp [IntKind.wrap, sg]; omega
    rw [if_pos hneg]
    simp -implicitDefEqProofs (disch := omega) [w1, w2]
    generalize hLp : loopω (LB cx prim 42 Tryz.f42 0) _ = R
    obtain ⟨x', ⟨nn, env, h2⟩, rfl, rfl, rfl, e0, hb⟩ := lemL x.natAbs (by omega) _ _ hLp rfl (by simp) (by simp) (by simp)
    simp only at e0 hb
    have cv := hb.conv
    have hlen := dig_len (n := x.natAbs) (k := 20) (by omega) (by omega)
    have hsz : (⟨#[45]⟩ : ByteArray).size + (⟨(dig x.natAbs).toArray⟩ : ByteArray).size ≤ 9223372036854775807 := by simp [ByteArray.size]; omega
    have happ : (⟨#[45]⟩ : ByteArray) ++ (⟨(dig x.natAbs).toArray⟩ : ByteArray) = ⟨(45 :: dig x.natAbs).toArray⟩ := by
      apply ByteArray.ext
      simp
    simp -implicitDefEqProofs (disch := omega) [e0, cv, hsz, happ]
  · have w1 : IntKind.wrap .u64 x = x := by simp [IntKind.wrap, sg]; omega
    have e : x = (x.natAbs : Int) := by omega
    rw [if_neg hneg]
    simp -implicitDefEqProofs (disch := omega) [w1]
    generalize hLp : loopω (LB cx prim 42 Tryz.f42 0) _ = R
    obtain ⟨x', ⟨nn, env, h2⟩, rfl, rfl, rfl, e0, hb⟩ := lemL x.natAbs (by omega) _ _ hLp rfl (by simp) (by simp; omega) (by simp)
    simp only at e0 hb
    have cv := hb.conv
    simp -implicitDefEqProofs (disch := omega) [e0, cv]
theorem c42 {c : FuncId} {x : Int} (h : H) (hx : -9223372036854775808 ≤ x) (hx2 : x < 9223372036854775808) (hm : md c 42 = .pure) : callD (cx.at c) (call cx prim) 42 [.t (.int .i64 x)] h = some (.t (.str ⟨(decL x).toArray⟩), h) := by
  obtain ⟨h', q⟩ := s42 hx hx2
  exact pureT cb42 hm q rfl rfl
end Go.Proofs.YtlcbhhmnfmeoeaaGreatDoor

namespace Go.Proofs.YtlcbhhmnfmeoeaaGreatDoor
open Vai
set_option maxHeartbeats 0
theorem dval_take {l : List UInt8} {k : Nat} {b : UInt8} (hb : l[k]? = some b) : dval (l.take (k + 1)) = dval (l.take k) * 10 + (b.toNat - 48) := by
  have h : k < l.length := by
    apply Classical.byContradiction
    intro h
    rw [List.getElem?_eq_none (by omega)] at hb
    cases hb
  rw [List.take_succ_eq_append_getElem h, dval_snoc]
  rw [List.getElem?_eq_getElem h] at hb
  rw [Option.some.inj hb]
theorem l31 {l : List UInt8} (h1 : l ≠ []) (h19 : l.length ≤ 19) (hall : ∀ b ∈ l, digitB b.toNat = true) {s : ByteArray} {h : H} {st : St} {r : CR} (hLp : loopω (LB cx prim 31 Tryz.f31 0) st = r) (en : st.n = 65) (e0 : st.env 0 = .t (.str s)) (e4 : st.env 4 = .t (.str ⟨l.toArray⟩)) (e5 : st.env 5 = .t (.int .u64 0)) (e6 : st.env 6 = .t (.int .i64 0)) (eh : st.h = h) :
    ∃ x' st', r = some (x', st') ∧ x' = .exit 0 ∧ st'.n = 65 ∧ st'.env 0 = .t (.str s) ∧ st'.env 4 = .t (.str ⟨l.toArray⟩) ∧ st'.env 5 = .t (.int .u64 (dval l)) ∧ st'.h = h := by
  have hsz : (⟨l.toArray⟩ : ByteArray).size = l.length := by simp [ByteArray.size]
  refine loop_uses hLp l.length (fun k st => st.n = 65 ∧ st.env 0 = .t (.str s) ∧ st.env 4 = .t (.str ⟨l.toArray⟩) ∧ st.env 6 = .t (.int .i64 k) ∧ st.env 5 = .t (.int .u64 (dval (l.take k))) ∧ st.h = h) _ ⟨en, e0, e4, e6, by simpa [dval] using e5, eh⟩ ?_
  rintro k ⟨nn, env, h2⟩ hk ⟨rfl, e0, e4, e6, e5, rfl⟩
  simp only at e0 e4 e5 e6
  rw [LB_run nd31 rfl]
  by_cases hk' : k < l.length
  · obtain ⟨b, hb⟩ : ∃ b, l[k]? = some b := ⟨l[k], by simp [hk']⟩
    have hd := hall b (List.mem_of_getElem? hb)
    simp only [digitB, decide_eq_true_eq] at hd
    have hlt := dval_lt k (l.take k) (by simp; omega) fun b hb => hall b (List.mem_of_mem_take hb)
    have h18 : 10 ^ k ≤ 10 ^ 18 := Nat.pow_le_pow_right (by omega) (by omega)
    have e18 : 10 ^ 18 = 1000000000000000000 := by decide
    have ht := dval_take hb
    have c1 : (k : Int) < l.length := by omega
    have w1 : IntKind.wrap .u64 ((dval (l.take k) : Int) * 10) = (dval (l.take k) : Int) * 10 := by simp [IntKind.wrap, show IntKind.u64.signed = false from rfl]; omega
    have w2 : IntKind.wrap .u8 ((b.toNat : Int) - 48) = ((b.toNat - 48 : Nat) : Int) := by
      have := b.toNat_lt
      simp [IntKind.wrap, show IntKind.u8.signed = false from rfl]; omega
    have w3 : IntKind.wrap .u64 ((b.toNat - 48 : Nat) : Int) = ((b.toNat - 48 : Nat) : Int) := by
      simp [IntKind.wrap, show IntKind.u64.signed = false from rfl]; omega
    have w4 : IntKind.wrap .u64 ((dval (l.take k) : Int) * 10 + ((b.toNat - 48 : Nat) : Int)) = (dval (l.take (k + 1)) : Int) := by
      rw [ht]
      simp [IntKind.wrap, show IntKind.u64.signed = false from rfl]; omega
    have hb1 : ∀ (h : k < l.length), l[k] = b := fun h => by rw [List.getElem?_eq_getElem h] at hb; exact Option.some.inj hb
    simp -implicitDefEqProofs (disch := omega) [hsz, e0, e4, e5, e6, hb, hb1, Wp_some, w1, w2, w3, w4]
    exact hk'
  · obtain rfl : k = l.length := by omega
    rw [List.take_length] at e5
    simp -implicitDefEqProofs (disch := omega) [hsz, e0, e4, e5, e6, Wp_some]
theorem s31 {l : List UInt8} (h1 : l ≠ []) (hl : l.length ≤ 100000) (hall : ∀ b ∈ l, digitB b.toNat = true) : ∃ n ok h', call cx prim 31 [.t (.str ⟨l.toArray⟩)] .empty = some (.tup [.t (.int .i64 n), .t (.bool ok)], h') ∧ numS l = if ok = true then some n else none := by
  rw [call_run (cx := cx) rfl Tryz.func31 ok31 nd31 rfl (Nat.le_of_ble_eq_true rfl) rfl rfl]
  have hsz : (⟨l.toArray⟩ : ByteArray).size = l.length := by simp [ByteArray.size]
  have hpos : 0 < l.length := List.length_pos_iff.2 h1
  have c1 : (0 : Int) < l.length := by omega
  obtain ⟨b, hb⟩ : ∃ b, l[0]? = some b := ⟨l[0], by simp [hpos]⟩
  have hd := hall b (List.mem_of_getElem? hb)
  simp only [digitB, decide_eq_true_eq] at hd
  have hb1 : ∀ (h : 0 < l.length), l[0] = b := fun h => by rw [List.getElem?_eq_getElem h] at hb; exact Option.some.inj hb
  have n45 : eqI (b.toNat : Int) 45 = false := eqI_false (by omega)
  have c2 : ¬ (l.length : Int) < 1 := by omega
  by_cases h19 : 19 < l.length
  · have c3 : (19 : Int) < l.length := by omega
    simp -implicitDefEqProofs (disch := omega) [hsz, hb, hb1, n45]
    exact numS_long h1 hall h19
  have c3 : ¬ (19 : Int) < l.length := by omega
  have lemL := fun (s : ByteArray) (st : St) (r : CR) (h : H) => l31 (s := s) (h := h) h1 (by omega) hall (st := st) (r := r)
  simp -implicitDefEqProofs (disch := omega) [hsz, hb, hb1, n45]
  generalize hLp : loopω (LB cx prim 31 Tryz.f31 0) _ = R
  obtain ⟨x', ⟨nn, env, h2⟩, rfl, rfl, rfl, e0, e4, e5, rfl⟩ := lemL ⟨l.toArray⟩ _ _ _ hLp rfl (by simp) (by simp) (by simp) (by simp) rfl
  simp only at e0 e4 e5
  have hlt := dval_lt l.length l rfl hall
  have h18 : 10 ^ l.length ≤ 10 ^ 19 := Nat.pow_le_pow_right (by omega) (by omega)
  have e18 : 10 ^ 19 = 10000000000000000000 := by decide
  by_cases hbig : dval l < 9223372036854775808
  · have w1 : IntKind.wrap .i64 (dval l : Int) = (dval l : Int) := by simp [IntKind.wrap, show IntKind.i64.signed = true from rfl]; omega
    have q42 := fun h => c42 (c := 31) (x := (dval l : Int)) h (by omega) (by omega) rfl
    have hde : decL (dval l : Int) = dig (dval l) := by unfold decL; rw [if_neg (by omega)]; rfl
    rw [hde] at q42
    have heq : eqS ⟨(dig (dval l)).toArray⟩ ⟨l.toArray⟩ = decide (dig (dval l) = l) := by simp only [eqS, ba_eq]
    simp -implicitDefEqProofs (disch := omega) [hsz, e0, e4, e5, w1, q42, heq]
    by_cases he : dig (dval l) = l
    · exact ⟨_, .inr ⟨⟨rfl, he⟩, numS_yes h1 hall hbig he⟩⟩
    · exact ⟨_, .inl ⟨⟨rfl, he⟩, numS_no h1 hall (fun h => he h.2)⟩⟩
  · have w1 : IntKind.wrap .i64 (dval l : Int) = (dval l : Int) - 18446744073709551616 := by simp [IntKind.wrap, show IntKind.i64.signed = true from rfl]; omega
    have q42 := fun h => c42 (c := 31) (x := (dval l : Int) - 18446744073709551616) h (by omega) (by omega) rfl
    have heq : eqS ⟨(decL ((dval l : Int) - 18446744073709551616)).toArray⟩ ⟨l.toArray⟩ = false := by
      simp only [eqS, ba_eq, decide_eq_false_iff_not]
      intro e
      unfold decL at e
      rw [if_pos (by omega)] at e
      have := hall 45 (by rw [← e]; simp)
      simp [digitB] at this
    simp -implicitDefEqProofs (disch := omega) [hsz, e0, e4, e5, w1, q42, heq]
    exact numS_no h1 hall (fun h => hbig h.1)
theorem c31 {c : FuncId} {l : List UInt8} (h : H) (h1 : l ≠ []) (hl : l.length ≤ 100000) (hall : ∀ b ∈ l, digitB b.toNat = true) (hm : md c 31 = .pure) : ∃ n ok, callD (cx.at c) (call cx prim) 31 [.t (.str ⟨l.toArray⟩)] h = some (.tup [.t (.int .i64 n), .t (.bool ok)], h) ∧ numS l = if ok = true then some n else none := by
  obtain ⟨n, ok, h', q, e⟩ := s31 h1 hl hall
  exact ⟨n, ok, pureT cb31 hm q (by simp [snapOut]) rfl, e⟩
end Go.Proofs.YtlcbhhmnfmeoeaaGreatDoor

namespace Go.Proofs.YtlcbhhmnfmeoeaaGreatDoor
open Vai
set_option maxHeartbeats 0
theorem s41 (s : ByteArray) (hs : s.size ≤ 1000000000) : ∃ h', call cx prim 41 [.t (.str s)] .empty = some (.t (.bool (chs s 0)), h') := by
  rw [call_run (cx := cx) rfl Tryz.func41 ok41 nd41 rfl (Nat.le_of_ble_eq_true rfl) rfl rfl]
  simp -implicitDefEqProofs (disch := omega) []
  generalize hLp : loopω _ _ = L
  obtain ⟨x, ⟨nn, env, h2⟩, rfl, rfl, hx⟩ := loop_uses hLp s.size
    (fun k st => st.n = 26 ∧ ∃ i : Nat, k ≤ i ∧ i ≤ s.size ∧ st.env 0 = .t (.str s) ∧ st.env 3 = .t (.int .i64 i) ∧ chs s i = chs s 0)
    (fun x st => st.n = 26 ∧ ((x = .exit 0 ∧ chs s 0 = true) ∨ (x = .ret ∧ chs s 0 = false ∧ st.env 2 = .t (.bool false))))
    (by refine ⟨rfl, 0, ?_⟩; simp) (by
    rintro k ⟨nn, env, h2⟩ hk ⟨rfl, i, hki, his, e0, e3, hb⟩
    simp only at e0 e3
    rw [LB_run nd41 rfl]
    by_cases hi : i < s.size
    · have q := fun h => c56 (c := 41) s i h hs rfl
      have q57 := fun h => c57 (c := 41) (nx s i).1 h rfl
      have hle := nx_le hi
      have c1 : (i : Int) < s.size := by omega
      rw [chs_step hi] at hb
      by_cases hn : (nx s i).2 = 0
      · rw [if_pos (.inl hn)] at hb
        simp -implicitDefEqProofs (disch := omega) [e0, e3, q, hn, Wp_some]
        exact hb.symm
      · have hn' : eqI ((nx s i).2 : Int) 0 = false := eqI_false (by omega)
        cases hc : charB (nx s i).1 with
        | false =>
          rw [hc] at q57
          rw [if_pos (.inr hc)] at hb
          simp -implicitDefEqProofs (disch := omega) [e0, e3, q, q57, hn', Wp_some]
          exact hb.symm
        | true =>
          rw [hc] at q57
          rw [if_neg (by simp [hn, hc])] at hb
          simp -implicitDefEqProofs (disch := omega) [e0, e3, q, q57, hn', Wp_some]
          exact ⟨by omega, i + (nx s i).2, by omega, by omega, by omega, hb⟩
    · have c1 : ¬ (i : Int) < s.size := by omega
      rw [chs_over (by omega)] at hb
      simp -implicitDefEqProofs (disch := omega) [e0, e3, Wp_some, ← hb])
  rcases hx with ⟨rfl, hb⟩ | ⟨rfl, hb, e2⟩
  · simp -implicitDefEqProofs (disch := omega) [hb]
  · simp only at e2
    simp -implicitDefEqProofs (disch := omega) [hb, e2]
theorem c41 {c : FuncId} (s : ByteArray) (h : H) (hs : s.size ≤ 1000000000) (hm : md c 41 = .pure) : callD (cx.at c) (call cx prim) 41 [.t (.str s)] h = some (.t (.bool (chs s 0)), h) := by
  obtain ⟨h', q⟩ := s41 s hs
  exact pureT cb41 hm q rfl rfl
end Go.Proofs.YtlcbhhmnfmeoeaaGreatDoor
