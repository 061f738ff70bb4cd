import Derived.Test.YtccajagfgdchlaaKb8
import Derived.Test.YtccajagfgdchlaaJ2
set_option linter.unusedSimpArgs false
set_option linter.unusedVariables false
set_option linter.unusedSectionVars false
namespace Go.Proofs.Ytccajagfgdchlaa
open Vai
set_option maxHeartbeats 0
def hdOf (j : Job) : Hd := (j.id, j.inst, j.node.data.toList, j.undo, j.state, j.left, j.due, j.till)
theorem encJ_hd (j : Job) (vs : List VR4) : encJ j vs = encH (hdOf j) ++ be8 vs.length ++ encVs vs := by
  have e : j.node.data.toList.length = j.node.size := by simp
  simp only [encJ, encH, hdOf, e, List.append_assoc]
  rfl
theorem encJ_of (y : Hd) (vt : T) (vs : List VR4) : encJ (jobOf y vt) vs = encH y ++ be8 vs.length ++ encVs vs := by
  rw [encJ_hd]
  rfl
theorem jobOf_hd (j : Job) (vt : T) : jobOf (hdOf j) vt = { j with vars := vt } := by
  have e : (⟨j.node.data.toList.toArray⟩ : ByteArray) = j.node := ba_self j.node
  simp only [jobOf, hdOf, e]
theorem sameJ_refl (a b : Job) (vs : List VR4) (h : { a with vars := b.vars } = b) : sameJ a b vs vs = true := by
  rw [← h]
  simp [sameJ]
theorem c24b {c : FuncId} (h : H) (hm : md c 24 = .pure) : callD (cx.at c) (call cx prim) 24 [] h = some (.t (.bool true), h) := by
  obtain ⟨h', q⟩ := yes_call y24
  exact pureT cb24 hm q rfl rfl
theorem c33b {c : FuncId} {a b : Job} {vs : List VR4} (hx : Slice a.vars (vs.map varT)) (hy : Slice b.vars (vs.map varT)) (hv : vs.length ≤ 2000000) (he : { a with vars := b.vars } = b) (h : H) (hm : md c 33 = .pure) : callD (cx.at c) (call cx prim) 33 [.t a.t, .t b.t] h = some (.t (.bool true), h) := by
  obtain ⟨h', q⟩ := s33 hx hy hv hv
  rw [sameJ_refl a b vs he] at q
  exact pureT (ts := [a.t, b.t]) cb33 hm q rfl rfl
theorem encVs_mem {v : VR4} : ∀ {vs : List VR4}, v ∈ vs → (encV v).length ≤ (encVs vs).length
  | w :: vs, h => by
    have e : encVs (w :: vs) = encV w ++ encVs vs := by simp [encVs]
    rw [e, List.length_append]
    rcases List.mem_cons.1 h with rfl | h
    · omega
    · have := encVs_mem h
      omega
theorem law11 (j : Job) {vs : List VR4} (hv : Slice j.vars (vs.map varT)) (hb : bulkOK vs) (hsz : vs.length ≤ 200 → j.node.size + (encVs vs).length ≤ 1200000) (hn : j.node.size ≤ 1100000) (hin : inR j.id ∧ inR j.inst ∧ inR j.state ∧ inR j.left ∧ inR j.due ∧ inR j.till) (hok : ∀ v ∈ vs, okV v) {x : T} {l : List UInt8} (hx : Slice x (ub l)) (hl : l.length ≤ 1100000) :
    ∃ h', call cx prim 11 [.t j.t, .t x] .empty = some (.t (.bool true), h') := by
  rw [call_run rfl Try.func11 ok11 nd11 rfl (Nat.le_of_ble_eq_true rfl) rfl rfl]
  have q24 := fun h => c24b (c := 11) h (by simp [md])
  have hlv := fun hh => hv.len (P := Try.prog) (t := 29) tk29 hh
  have hlx := fun hh => hx.len (P := Try.prog) (t := 22) tk22 hh
  rw [List.length_map] at hlv
  rw [ub_len] at hlx
  by_cases h200 : 200 < vs.length
  · have c1 : (200 : Int) < vs.length := by omega
    simp -implicitDefEqProofs (disch := omega) [q24, hlv, hlx, hv.cells1]
  have c1 : ¬ (200 : Int) < vs.length := by omega
  by_cases h300 : 30000 < l.length
  · have c2 : (30000 : Int) < l.length := by omega
    simp -implicitDefEqProofs (disch := omega) [q24, hlv, hlx, hv.cells1]
  have c2 : ¬ (30000 : Int) < l.length := by omega
  have hsz' := hsz (by omega)
  have q44 := fun h => c44 (c := 11) j hv hb (by omega) h (by simp [md])
  have q34 := fun h => c34 (c := 11) j hv hb (by omega) h (by simp [md])
  have e := encJ_hd j vs
  have hdec : decP (encJ j vs) = some (hdOf j, vs) := by
    rw [e]
    exact decP_enc ⟨hin.1, hin.2.1, by simp [hdOf]; omega, trivial, hin.2.2.1, hin.2.2.2.1, hin.2.2.2.2.1, hin.2.2.2.2.2⟩ hok (by omega)
  have hlen : (encJ j vs).length ≤ 2000000 := by
    simp only [encJ, List.length_append, bek_len, List.length_singleton]
    have : j.node.data.toList.length = j.node.size := by simp
    omega
  obtain ⟨vt1, hvt1, q45⟩ : ∃ vt, Slice vt (vs.map varT) ∧ ∀ h, callD (cx.at 11) (call cx prim) 45 [.t (.slice (ub (encJ j vs)))] h = some (.tup [.t (jobOf (hdOf j) vt).t, .t (.bool true)], h) := by
    rcases c45 (c := 11) (x := .slice (ub (encJ j vs))) .mk hlen (by simp [md]) with ⟨h1, _⟩ | ⟨y, ws, vt, h1, h2, h3⟩
    · rw [hdec] at h1; cases h1
    · rw [hdec] at h1
      cases h1
      exact ⟨vt, h2, h3⟩
  have q33 := fun h => c33b (c := 11) (a := j) (b := jobOf (hdOf j) vt1) hv hvt1 (by omega) (by rw [jobOf_hd]) h (by simp [md])
  have cvE : ∀ h, convD Try.prog h 22 9 (.t (.slice (ub (encJ j vs)))) = some (.t (.str ⟨(encJ j vs).toArray⟩)) := fun h => conv_bytes tk22 tk9 tk5 .mk
  have cvx : ∀ h, convD Try.prog h 22 9 (.t x) = some (.t (.str ⟨l.toArray⟩)) := fun h => conv_bytes tk22 tk9 tk5 hx
  generalize hE : encJ j vs = E at *
  rw [jobOf_hd] at q45 q33
  rcases c45 (c := 11) hx (by omega) (by simp [md]) with ⟨h1, q45b⟩ | ⟨y, ws, vt2, h1, hvt2, q45b⟩
  · rcases c46 (c := 11) hx (by omega) (by simp [md]) with ⟨_, q46⟩ | ⟨y', ws', vt3, h1', _, _⟩
    case inr => rw [h1] at h1'; cases h1'
    have q33z := fun h => c33b (c := 11) (a := zeroJob) (b := zeroJob) (vs := []) Slice.nil Slice.nil (by simp) rfl h (by simp [md])
    simp -implicitDefEqProofs (maxSteps := 2000000) (disch := omega) [q24, hlv, hlx, hv.cells1, hvt1.cells1, q44, q34, q45, q45b, q46, q33, q33z, cvE, cvx]
  · rcases c46 (c := 11) hx (by omega) (by simp [md]) with ⟨h1', _⟩ | ⟨y', ws', vt3, h1', hvt3, q46⟩
    · rw [h1] at h1'; cases h1'
    rw [h1] at h1'
    cases h1'
    obtain ⟨hl2, hl3⟩ := decP_inv h1
    have q33c := fun h => c33b (c := 11) (a := jobOf y vt2) (b := jobOf y vt3) hvt2 hvt3 (by omega) rfl h (by simp [md])
    have hE2 : encJ (jobOf y vt2) ws = l := by rw [encJ_of, ← hl2]
    have hll := congrArg List.length hl2
    simp only [List.length_append, bek_len, encH] at hll
    have hbw : bulkOK ws := by
      refine ⟨by omega, by omega, fun v hv => ?_⟩
      have h4 := encVs_mem hv
      have h5 : (encV v).length = 8 + v.1.data.toList.length + 8 + 8 + (8 + v.2.2.2.data.toList.length) := by simp only [encV, List.length_append, bek_len]
      have h6 : v.1.data.toList.length = v.1.size := by simp
      have h7 : v.2.2.2.data.toList.length = v.2.2.2.size := by simp
      omega
    have hns : (jobOf y vt2).node.size = y.2.2.1.length := by simp [jobOf, ByteArray.size]
    have q44b := fun h => c44 (c := 11) (jobOf y vt2) hvt2 hbw (by omega) h (by simp [md])
    rw [hE2] at q44b
    have cvl : ∀ h, convD Try.prog h 22 9 (.t (.slice (ub l))) = some (.t (.str ⟨l.toArray⟩)) := fun h => conv_bytes tk22 tk9 tk5 .mk
    simp only [jobOf] at q45b q46 q33c q44b
    simp -implicitDefEqProofs (maxSteps := 2000000) (disch := omega) [q24, hlv, hlx, hv.cells1, hvt1.cells1, hvt2.cells1, hvt3.cells1, q44, q34, q45, q45b, q46, q33, q33c, cvE, cvx, q44b, cvl]
end Go.Proofs.Ytccajagfgdchlaa
