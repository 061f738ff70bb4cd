import Derived.Test.YtlcbhhmnfmeoeaaDoorU0
import Derived.Test.YtlcbhhmnfmeoeaaDoorDFn
set_option linter.unusedSimpArgs false
set_option linter.unusedVariables false
set_option linter.unusedSectionVars false
namespace Go.Proofs.YtlcbhhmnfmeoeaaDoor
open Vai
set_option maxHeartbeats 0
/-! utf.Put -/
theorem s46 {r : Int} {h : H} {id : Nat} (sh : Int) (ho : h.objs id = some (.row 21 1 [.t (.int .i32 r)])) (h0 : 0 ≤ r) (h1 : r ≤ 1114111) (hs : sh = 0 ∨ sh = 6 ∨ sh = 12) : call cx prim 46 [.t (.int .i64 sh), .ptr id 0 0 1] h = some (.t (.int .u8 (128 + r / 2 ^ sh.toNat % 64)), h) := by
  rw [call_run rfl Tryd.func46 ok46 nd46 rfl (Nat.le_of_ble_eq_true rfl) rfl rfl]
  rcases hs with rfl | rfl | rfl
  · simp -implicitDefEqProofs (disch := omega) [ho, and63, or128, wrap_u8_mod]
  · simp -implicitDefEqProofs (disch := omega) [ho, and63, or128, wrap_u8_mod]
    rw [fdiv_pos' (by omega)]
  · simp -implicitDefEqProofs (disch := omega) [ho, and63, or128, wrap_u8_mod]
    rw [fdiv_pos' (by omega)]
theorem c46 {c : FuncId} {r : Int} {h : H} {id : Nat} (sh : Int) (ho : h.objs id = some (.row 21 1 [.t (.int .i32 r)])) (h0 : 0 ≤ r) (h1 : r ≤ 1114111) (hs : sh = 0 ∨ sh = 6 ∨ sh = 12) : callD (cx.at c) (call cx prim) 46 [.t (.int .i64 sh), .ptr id 0 0 1] h = some (.t (.int .u8 (128 + r / 2 ^ sh.toNat % 64)), h) := keepT cb46 (by simp [md]) (s46 sh ho h0 h1 hs)



theorem s39 (r : Int) : ∃ h', call cx prim 39 [.t (.int .i32 r)] .empty = some (.t (.str ⟨(putL r).toArray⟩), h') := by
  rw [call_run rfl Tryd.func39 ok39 nd39 rfl (Nat.le_of_ble_eq_true rfl) rfl rfl]
  unfold putL
  have d1 : r.fdiv 64 = r / 64 := fdiv_pos' (by omega)
  have d2 : r.fdiv 4096 = r / 4096 := fdiv_pos' (by omega)
  have d3 : r.fdiv 262144 = r / 262144 := fdiv_pos' (by omega)
  by_cases h1 : r < 0
  · simp -implicitDefEqProofs (disch := omega) [h1]
  by_cases h2 : 1114111 < r
  · simp -implicitDefEqProofs (disch := omega) [h1, h2]
  by_cases h3 : 55296 ≤ r
  · have h4 : ¬ r < 128 := by omega
    by_cases h3' : r ≤ 57343
    · simp -implicitDefEqProofs (disch := omega) [h1, h2, h3, h3']
    · have h5 : ¬ r < 2048 := by omega
      by_cases h6 : r < 65536
      · simp -implicitDefEqProofs (disch := first | omega | simp) [h1, h2, h3, h3', h4, h5, h6, wrap_u8_mod, buildSliceD, convD, List.replicate, byteOfT, or224, d2, c46 (r := r)]
        exact ⟨of_u8 (by omega), of_u8 (by omega), of_u8 (by omega)⟩
      · simp -implicitDefEqProofs (disch := first | omega | simp) [h1, h2, h3, h3', h4, h5, h6, wrap_u8_mod, buildSliceD, convD, List.replicate, byteOfT, or240, d3, c46 (r := r)]
        exact ⟨of_u8 (by omega), of_u8 (by omega), of_u8 (by omega), of_u8 (by omega)⟩
  by_cases h4 : r < 128
  · simp -implicitDefEqProofs (disch := omega) [h1, h2, h3, h4, wrap_u8_mod, buildSliceD, convD, List.replicate, byteOfT]
    exact of_u8 (by omega)
  by_cases h5 : r < 2048
  · simp -implicitDefEqProofs (disch := first | omega | simp) [h1, h2, h3, h4, h5, wrap_u8_mod, buildSliceD, convD, List.replicate, byteOfT, or192, d1, c46 (r := r)]
    exact ⟨of_u8 (by omega), of_u8 (by omega)⟩
  · have h6 : r < 65536 := by omega
    simp -implicitDefEqProofs (disch := first | omega | simp) [h1, h2, h3, h4, h5, h6, wrap_u8_mod, buildSliceD, convD, List.replicate, byteOfT, or224, d2, c46 (r := r)]
    exact ⟨of_u8 (by omega), of_u8 (by omega), of_u8 (by omega)⟩
theorem c39 {c : FuncId} (r : Int) (h : H) (hm : md c 39 = .pure) : callD (cx.at c) (call cx prim) 39 [.t (.int .i32 r)] h = some (.t (.str ⟨(putL r).toArray⟩), h) := by
  obtain ⟨h', q⟩ := s39 r
  exact pureT cb39 hm q rfl rfl
/-! pavaneref07.Put -/
theorem s49 {r : Int} (sh n : Int) (h0 : 0 ≤ r) (h1 : r ≤ 1114111) (hs : (sh = 6 ∧ n = 5) ∨ (sh = 0 ∧ n = 6) ∨ (sh = 12 ∧ n = 4) ∨ (sh = 6 ∧ n = 6) ∨ (sh = 18 ∧ n = 3) ∨ (sh = 12 ∧ n = 6)) : call cx prim 49 [.t (.int .i32 r), .t (.int .u64 sh), .t (.int .u64 n)] .empty = some (.t (.int .u8 (r / 2 ^ sh.toNat % 2 ^ n.toNat)), .empty) := by
  rw [call_run rfl Tryd.func49 ok49 nd49 rfl (Nat.le_of_ble_eq_true rfl) rfl rfl]
  have wr : IntKind.u32.wrap r = r := by
    have e : (2 : Int) ^ (32 : Nat) = 4294967296 := by decide
    simp only [IntKind.wrap, IntKind.bits, IntKind.signed, Bool.false_and, e]
    simp
    omega
  have wc : ∀ c : Int, 0 ≤ c → c < 4294967296 → IntKind.u32.wrap c = c := fun c h0 h1 => by
    have e : (2 : Int) ^ (32 : Nat) = 4294967296 := by decide
    simp only [IntKind.wrap, IntKind.bits, IntKind.signed, Bool.false_and, e]
    simp
    omega
  rcases hs with ⟨rfl, rfl⟩ | ⟨rfl, rfl⟩ | ⟨rfl, rfl⟩ | ⟨rfl, rfl⟩ | ⟨rfl, rfl⟩ | ⟨rfl, rfl⟩
  all_goals simp -implicitDefEqProofs (disch := omega) [wr, wc, wrap_u8_mod]
  all_goals first | rw [fdiv_pos' (by omega), tmod_pos' (by omega)] | rw [tmod_pos' (by omega)]
  all_goals omega
theorem c49 {c : FuncId} {r : Int} (sh n : Int) (h : H) (h0 : 0 ≤ r) (h1 : r ≤ 1114111) (hs : (sh = 6 ∧ n = 5) ∨ (sh = 0 ∧ n = 6) ∨ (sh = 12 ∧ n = 4) ∨ (sh = 6 ∧ n = 6) ∨ (sh = 18 ∧ n = 3) ∨ (sh = 12 ∧ n = 6)) (hm : md c 49 = .pure) : callD (cx.at c) (call cx prim) 49 [.t (.int .i32 r), .t (.int .u64 sh), .t (.int .u64 n)] h = some (.t (.int .u8 (r / 2 ^ sh.toNat % 2 ^ n.toNat)), h) := pureT cb49 hm (s49 sh n h0 h1 hs) rfl rfl
theorem s45 (r : Int) : call cx prim 45 [.t (.int .i32 r)] .empty = some (.t (.bool (decide (0 ≤ r ∧ r ≤ 1114111 ∧ (r < 55296 ∨ 57343 < r)))), .empty) := by
  rw [call_run rfl Tryd.func45 ok45 nd45 rfl (Nat.le_of_ble_eq_true rfl) rfl rfl]
  by_cases h1 : 0 ≤ r
  · by_cases h2 : r ≤ 1114111
    · by_cases h3 : r < 55296
      · simp -implicitDefEqProofs (disch := omega) [h1, h2, h3]
      · simp -implicitDefEqProofs (disch := omega) [h1, h2, h3, ltI]
    · simp -implicitDefEqProofs (disch := omega) [h1, h2]
  · simp -implicitDefEqProofs (disch := omega) [h1]
theorem c45 {c : FuncId} (r : Int) (h : H) (hm : md c 45 = .pure) : callD (cx.at c) (call cx prim) 45 [.t (.int .i32 r)] h = some (.t (.bool (decide (0 ≤ r ∧ r ≤ 1114111 ∧ (r < 55296 ∨ 57343 < r)))), h) := pureT cb45 hm (s45 r) rfl rfl
/-- What pavaneref07.Put answers: nil, or new bytes. -/
theorem s44 (r : Int) : call cx prim 44 [.t (.int .i32 r)] .empty = some (nrow 5 1 (ub (putL r)) .empty) := by
  rw [call_run rfl Tryd.func44 ok44 nd44 rfl (Nat.le_of_ble_eq_true rfl) rfl rfl]
  have k := fun h => c45 (c := 44) r h rfl
  by_cases hn : r < 0 ∨ 1114111 < r ∨ (55296 ≤ r ∧ r ≤ 57343)
  · have : decide (0 ≤ r ∧ r ≤ 1114111 ∧ (r < 55296 ∨ 57343 < r)) = false := by simp; omega
    rw [this] at k
    have e : putL r = [] := by unfold putL; rw [if_pos hn]
    rw [e]
    simp -implicitDefEqProofs (disch := omega) [k, nrow, ub]
  have : decide (0 ≤ r ∧ r ≤ 1114111 ∧ (r < 55296 ∨ 57343 < r)) = true := by simp; omega
  rw [this] at k
  have g := fun sh n h hs => c49 (c := 44) (r := r) sh n h (by omega) (by omega) hs rfl
  by_cases h4 : r < 128
  · have e : ub (putL r) = [.int .u8 r] := by unfold putL; rw [if_neg hn, if_pos h4]; simp only [ub, List.map_cons, List.map_nil]; rw [u8_val (by omega) (by omega)]
    rw [e]
    simp -implicitDefEqProofs (disch := omega) [h4, k, wrap_u8_mod, buildSliceD, List.replicate, nrow]
  by_cases h5 : r < 2048
  · have e : ub (putL r) = [.int .u8 (192 + r / 64), .int .u8 (128 + r % 64)] := by
      unfold putL; rw [if_neg hn, if_neg h4, if_pos h5]; simp only [ub, List.map_cons, List.map_nil]; rw [u8_val (by omega) (by omega), u8_val (by omega) (by omega)]
    have w1 : IntKind.u8.wrap (192 + r / 64 % 32) = 192 + r / 64 := by rw [wrap_u8_mod]; omega
    have w2 : IntKind.u8.wrap (128 + r % 64) = 128 + r % 64 := by rw [wrap_u8_mod]; omega
    rw [e]
    simp -implicitDefEqProofs (disch := first | omega | simp) [h4, h5, k, g, w1, w2, buildSliceD, List.replicate, nrow]
  by_cases h6 : r < 65536
  · have e : ub (putL r) = [.int .u8 (224 + r / 4096), .int .u8 (128 + r / 64 % 64), .int .u8 (128 + r % 64)] := by
      unfold putL; rw [if_neg hn, if_neg h4, if_neg h5, if_pos h6]; simp only [ub, List.map_cons, List.map_nil]; rw [u8_val (by omega) (by omega), u8_val (by omega) (by omega), u8_val (by omega) (by omega)]
    have w1 : IntKind.u8.wrap (224 + r / 4096 % 16) = 224 + r / 4096 := by rw [wrap_u8_mod]; omega
    have w2 : ∀ x : Int, IntKind.u8.wrap (128 + x % 64) = 128 + x % 64 := fun x => by rw [wrap_u8_mod]; omega
    rw [e]
    simp -implicitDefEqProofs (disch := first | omega | simp) [h4, h5, h6, k, g, w1, w2, buildSliceD, List.replicate, nrow]
  · have e : ub (putL r) = [.int .u8 (240 + r / 262144), .int .u8 (128 + r / 4096 % 64), .int .u8 (128 + r / 64 % 64), .int .u8 (128 + r % 64)] := by
      unfold putL; rw [if_neg hn, if_neg h4, if_neg h5, if_neg h6]; simp only [ub, List.map_cons, List.map_nil]; rw [u8_val (by omega) (by omega), u8_val (by omega) (by omega), u8_val (by omega) (by omega), u8_val (by omega) (by omega)]
    have w1 : IntKind.u8.wrap (240 + r / 262144 % 8) = 240 + r / 262144 := by rw [wrap_u8_mod]; omega
    have w2 : ∀ x : Int, IntKind.u8.wrap (128 + x % 64) = 128 + x % 64 := fun x => by rw [wrap_u8_mod]; omega
    rw [e]
    simp -implicitDefEqProofs (disch := first | omega | simp) [h4, h5, h6, k, g, w1, w2, buildSliceD, List.replicate, nrow]
theorem c44 {c : FuncId} (r : Int) (h : H) (hm : md c 44 = .pure) : callD (cx.at c) (call cx prim) 44 [.t (.int .i32 r)] h = some (.t (sl (ub (putL r))), h) := pureNew cb44 hm (s44 r) rfl
/-! characters -/
theorem s38 (r : Int) : call cx prim 38 [.t (.int .i32 r)] .empty = some (.t (.bool (charB r)), .empty) := by
  rw [call_run rfl Tryd.func38 ok38 nd38 rfl (Nat.le_of_ble_eq_true rfl) rfl rfl]
  have k := fun h => c45 (c := 38) r h rfl
  by_cases h1 : 0 ≤ r ∧ r ≤ 1114111 ∧ (r < 55296 ∨ 57343 < r)
  · have e : decide (0 ≤ r ∧ r ≤ 1114111 ∧ (r < 55296 ∨ 57343 < r)) = true := decide_eq_true h1
    rw [e] at k
    by_cases h2 : r = 65534
    · subst h2; simp -implicitDefEqProofs (disch := omega) [k, charB]
    by_cases h3 : r = 65535
    · subst h3; simp -implicitDefEqProofs (disch := omega) [k, charB]
    by_cases h4 : 32 ≤ r
    · simp -implicitDefEqProofs (disch := omega) [k, h2, h3, h4, charB]; omega
    by_cases h5 : r = 9
    · subst h5; simp -implicitDefEqProofs (disch := omega) [k, charB]
    by_cases h6 : r = 10
    · subst h6; simp -implicitDefEqProofs (disch := omega) [k, charB]
    by_cases h7 : r = 13
    · subst h7; simp -implicitDefEqProofs (disch := omega) [k, charB]
    · simp -implicitDefEqProofs (disch := omega) [k, h2, h3, h4, h5, h6, h7, charB]
  · have e : decide (0 ≤ r ∧ r ≤ 1114111 ∧ (r < 55296 ∨ 57343 < r)) = false := decide_eq_false h1
    rw [e] at k
    simp -implicitDefEqProofs (disch := omega) [k, charB]; omega
theorem c38 {c : FuncId} (r : Int) (h : H) (hm : md c 38 = .pure) : callD (cx.at c) (call cx prim) 38 [.t (.int .i32 r)] h = some (.t (.bool (charB r)), h) := pureT cb38 hm (s38 r) rfl rfl
theorem s41 (r : Int) : call cx prim 41 [.t (.int .i32 r)] .empty = some (.t (.bool (charB r)), .empty) := by
  rw [call_run rfl Tryd.func41 ok41 nd41 rfl (Nat.le_of_ble_eq_true rfl) rfl rfl]
  have k := fun h => c39 (c := 41) r h rfl
  have kn : eqS ⟨(putL r).toArray⟩ ⟨#[]⟩ = decide (¬ (0 ≤ r ∧ r ≤ 1114111 ∧ (r < 55296 ∨ 57343 < r))) := by
    unfold eqS
    have : ((⟨(putL r).toArray⟩ : ByteArray) = ⟨#[]⟩) ↔ putL r = [] := ba_eq (b := [])
    simp only [this, putL_ne]
  by_cases h1 : 0 ≤ r ∧ r ≤ 1114111 ∧ (r < 55296 ∨ 57343 < r)
  · rw [decide_eq_false (fun h => h h1)] at kn
    by_cases h5 : r = 9
    · subst h5; simp -implicitDefEqProofs (disch := omega) [k, kn, charB]
    by_cases h6 : r = 10
    · subst h6; simp -implicitDefEqProofs (disch := omega) [k, kn, charB]
    by_cases h7 : r = 13
    · subst h7; simp -implicitDefEqProofs (disch := omega) [k, kn, charB]
    by_cases h4 : 32 ≤ r
    · by_cases h2 : r = 65534
      · subst h2; simp -implicitDefEqProofs (disch := omega) [k, kn, charB]
      by_cases h3 : r = 65535
      · subst h3; simp -implicitDefEqProofs (disch := omega) [k, kn, charB]
      simp -implicitDefEqProofs (disch := omega) [k, kn, h2, h3, h4, h5, h6, h7, charB]; omega
    · simp -implicitDefEqProofs (disch := omega) [k, kn, h4, h5, h6, h7, charB]
  · rw [decide_eq_true h1] at kn
    have hc : charB r = false := by unfold charB; simp; omega
    rw [hc]
    by_cases h4 : 32 ≤ r
    · simp -implicitDefEqProofs (disch := omega) [k, kn, h4, show ¬ r = 9 by omega, show ¬ r = 10 by omega, show ¬ r = 13 by omega]
    · simp -implicitDefEqProofs (disch := omega) [k, kn, h4, show ¬ r = 9 by omega, show ¬ r = 10 by omega, show ¬ r = 13 by omega]
theorem c41 {c : FuncId} (r : Int) (h : H) (hm : md c 41 = .pure) : callD (cx.at c) (call cx prim) 41 [.t (.int .i32 r)] h = some (.t (.bool (charB r)), h) := pureT cb41 hm (s41 r) rfl rfl
end Go.Proofs.YtlcbhhmnfmeoeaaDoor
