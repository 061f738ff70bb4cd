import Derived.Test.YtlcbhhmnfmeoeaaDoorDN3
set_option linter.unusedSimpArgs false
set_option linter.unusedVariables false
set_option linter.unusedSectionVars false
namespace Go.Proofs.YtlcbhhmnfmeoeaaDoor
open Vai
set_option maxHeartbeats 0
theorem law7 (s : ByteArray) : ∃ h', call cx prim 7 [.t (.str s)] .empty = some (.t (.bool true), h') := by
  rw [call_run rfl Tryd.func7 ok7 nd7 rfl (Nat.le_of_ble_eq_true rfl) rfl rfl]
  have q11 := fun h => c11 (c := 7) h rfl
  by_cases h100 : 100 < s.size
  · have c1 : (100 : Int) < s.size := by omega
    simp -implicitDefEqProofs (disch := omega) [q11]
  have c1 : ¬ (100 : Int) < s.size := by omega
  have hV : H.empty.push (.row 45 3 [.t (.agg [.int .i64 0, .int .i64 0, .str ⟨#[]⟩])]) = H.empty.push (.row 45 3 [.t (.agg [.int .i64 0, .int .i64 0, .str ⟨#[]⟩])]) := rfl
  have hst : storeD Tryd.prog (H.empty.push (.row 45 3 [.t (.agg [.int .i64 0, .int .i64 0, .str ⟨#[]⟩])])) 45 (.ptr 0 0 0 1) (.t (.agg [.int .i64 3, .int .i64 0, .str s])) = some (H.empty.push (valO s)) := by
    have hm : (H.empty.push (.row 45 3 [.t (.agg [.int .i64 0, .int .i64 0, .str ⟨#[]⟩])])).mays 0 [D.t (.int .i64 3), D.t (.int .i64 0), D.t (.str s)] = true := mays_trees _ 0 [.int .i64 3, .int .i64 0, .str s]
    simp [-H.mays, storeD, H.els, hm, valO]
  have lemL := fun (st : St) (r : CR) => l7 (s := s) (by omega) (st := st) (r := r)
  simp -implicitDefEqProofs (disch := omega) [-storeD, -load_ptr, -H.els, q11, hst]
  generalize hLp : loopω (LB cx prim 7 Tryd.f7 0) _ = R
  obtain ⟨x, ⟨nn, env, h2⟩, rfl, rfl, rfl, e0, e3, hb, ho⟩ := lemL _ _ hLp rfl (by simp) (by simp) (by simp) (by simp) (by simp) (by simp)
  simp only at e0 e3 hb ho
  clear hLp lemL hst
  have cv := hb.conv
  have ld := val_ld ho
  have q16 := fun h => c16 (c := 7) s h (by omega) rfl
  have hel := esc_len s.data.toList
  rw [len_bytes] at hel
  generalize hT : (⟨(esc s.data.toList).toArray⟩ : ByteArray) = tx at cv
  have hTs : tx.size = (esc s.data.toList).length := by rw [← hT, size_list]
  have hTd : tx.data.toList = esc s.data.toList := by rw [← hT]
  have hz1 : (⟨#[34]⟩ : ByteArray).size = 1 := rfl
  have hz2 : ((⟨#[34]⟩ : ByteArray) ++ tx).size = 1 + tx.size := by rw [ByteArray.size_append]; rfl
  have hq : ((⟨#[34]⟩ : ByteArray) ++ tx ++ (⟨#[34]⟩ : ByteArray)).data.toList = 34 :: (esc s.data.toList ++ [34]) := by
    simp [ByteArray.data_append, hTd]
  have hz3 : ((⟨#[34]⟩ : ByteArray) ++ tx ++ (⟨#[34]⟩ : ByteArray)).size = 2 + tx.size := by
    rw [ByteArray.size_append, hz2, hz1]; omega
  have cases3 := lexS_text hq (by omega)
  have p1 : (⟨#[34]⟩ : ByteArray).size + tx.size ≤ 9223372036854775807 := by omega
  have p2 : (⟨#[34]⟩ : ByteArray).size + tx.size + (⟨#[34]⟩ : ByteArray).size ≤ 9223372036854775807 := by omega
  generalize hqq : (⟨#[34]⟩ : ByteArray) ++ tx ++ (⟨#[34]⟩ : ByteArray) = q at *
  rcases cases3 with ⟨hc, h64, hlx⟩ | ⟨hc, h64, hlx⟩ | ⟨hc, a, w, hlx, hw⟩
  · have q9 := q9_of (c := 7) (by omega) hlx (by simp) rfl
    simp only [List.map_cons, List.map_nil, Tk.t] at q9
    rw [show mayS s = true by simp [mayS, hc, h64]] at q16
    simp -implicitDefEqProofs (disch := omega) [-storeD, -load_ptr, -H.els, e0, e3, cv, ld, p1, p2, hqq, q9, q16]
  · obtain ⟨y, hy, q9⟩ := q9_nil (c := 7) (by omega) hlx rfl
    rw [show mayS s = false by simp [mayS, hc]; omega] at q16
    have c2 : (64 : Int) < s.size := by omega
    simp -implicitDefEqProofs (disch := omega) [-storeD, -load_ptr, -H.els, e0, e3, cv, ld, p1, p2, hqq, q9, q16]
  · obtain ⟨y, hy, q9⟩ := q9_nil (c := 7) (by omega) hlx rfl
    rw [show mayS s = false by simp [mayS, hc]] at q16
    by_cases h64 : 64 < s.size
    · have c2 : (64 : Int) < s.size := by omega
      rcases hw with rfl | rfl
      · simp -implicitDefEqProofs (disch := omega) [-storeD, -load_ptr, -H.els, e0, e3, cv, ld, p1, p2, hqq, q9, q16]
      · simp -implicitDefEqProofs (disch := omega) [-storeD, -load_ptr, -H.els, e0, e3, cv, ld, p1, p2, hqq, q9, q16]
    · have c2 : ¬ (64 : Int) < s.size := by omega
      rcases hw with rfl | rfl
      · simp -implicitDefEqProofs (disch := omega) [-storeD, -load_ptr, -H.els, e0, e3, cv, ld, p1, p2, hqq, q9, q16]
      · simp -implicitDefEqProofs (disch := omega) [-storeD, -load_ptr, -H.els, e0, e3, cv, ld, p1, p2, hqq, q9, q16]
end Go.Proofs.YtlcbhhmnfmeoeaaDoor
