import Derived.Test.YtccajagfgdchlaaKp2
set_option linter.unusedSimpArgs false
set_option linter.unusedVariables false
namespace Go.Proofs.Ytccajagfgdchlaa.Kp
open Vai
set_option maxHeartbeats 0
def encJ (j : Job) (vs : List (ByteArray × Int × Int × ByteArray)) : List UInt8 := be8 j.id ++ be8 j.inst ++ be8 j.node.size ++ j.node.data.toList ++ [if j.undo then 1 else 0] ++ be8 j.state ++ be8 j.left ++ be8 j.due ++ be8 j.till ++ be8 vs.length ++ encVs vs
theorem k34 (j : Job) {vs : List (ByteArray × Int × Int × ByteArray)} (hv : Slice j.vars (vs.map varT)) (hb : bulkOK vs) (hn : j.node.size ≤ 1500000) :
    ∃ id h', call cx prim 34 [.t j.t] .empty = some (.row id 0 (encJ j vs).length (encJ j vs).length, h') ∧ h'.objs id = some (.row 5 1 ((ub (encJ j vs)).map .t)) := by
  rw [call_run rfl Try.func34 ok34 nd34 rfl (Nat.le_of_ble_eq_true rfl) rfl rfl]
  have hsz : j.node.data.toList.length = j.node.size := by simp
  have q50 := fun g => c50 (c := 34) j.id g rfl
  obtain ⟨E1, hE1⟩ : ∃ E, E = be8 j.id := ⟨_, rfl⟩
  obtain ⟨E2, hE2⟩ : ∃ E, E = E1 ++ be8 j.inst := ⟨_, rfl⟩
  obtain ⟨E3, hE3⟩ : ∃ E, E = E2 ++ be8 j.node.size ++ j.node.data.toList := ⟨_, rfl⟩
  obtain ⟨E4, hE4⟩ : ∃ E, E = E3 ++ [if j.undo then 1 else 0] := ⟨_, rfl⟩
  obtain ⟨E5, hE5⟩ : ∃ E, E = E4 ++ be8 j.state := ⟨_, rfl⟩
  obtain ⟨E6, hE6⟩ : ∃ E, E = E5 ++ be8 j.left := ⟨_, rfl⟩
  obtain ⟨E7, hE7⟩ : ∃ E, E = E6 ++ be8 j.due := ⟨_, rfl⟩
  obtain ⟨E8, hE8⟩ : ∃ E, E = E7 ++ be8 j.till := ⟨_, rfl⟩
  have hJ : encJ j vs = E8 ++ be8 vs.length ++ encVs vs := by rw [hE8, hE7, hE6, hE5, hE4, hE3, hE2, hE1, encJ]
  have l1 : E1.length = 8 := by rw [hE1, bek_len]
  have l2 : E2.length = 16 := by rw [hE2, List.length_append, bek_len, l1]
  have l3 : E3.length = 24 + j.node.size := by rw [hE3, List.length_append, List.length_append, bek_len, l2, hsz]
  have l4 : E4.length = 25 + j.node.size := by rw [hE4, List.length_append, l3]; simp; omega
  have l5 : E5.length = 33 + j.node.size := by rw [hE5, List.length_append, bek_len, l4]; omega
  have l6 : E6.length = 41 + j.node.size := by rw [hE6, List.length_append, bek_len, l5]; omega
  have l7 : E7.length = 49 + j.node.size := by rw [hE7, List.length_append, bek_len, l6]; omega
  have l8 : E8.length = 57 + j.node.size := by rw [hE8, List.length_append, bek_len, l7]; omega
  have ne : ∀ {E : List UInt8}, 0 < E.length → E ≠ [] := fun h e => by subst e; simp at h
  rw [← hE1] at q50
  have q2 := own18 (g := H.empty.push (.row 31 9 [.t j.t])) (d := .t (sl (ub E1))) (snap_t _ _) (sl_slice _) j.inst (by omega)
  rw [← hE2] at q2
  have q3 := own19 (snap_push (g := H.empty.push (.row 31 9 [.t j.t])) (ne (E := E2) (by omega))) (sl_slice _) j.node (by omega) (by omega)
  rw [← hE3] at q3
  have q4 := own20 (snap_push (g := (H.empty.push (.row 31 9 [.t j.t])).push (.row 5 1 ((ub E2).map .t))) (ne (E := E3) (by omega))) (sl_slice _) j.undo (by omega)
  rw [← hE4] at q4
  have q5 := own18 (snap_push (g := ((H.empty.push (.row 31 9 [.t j.t])).push (.row 5 1 ((ub E2).map .t))).push (.row 5 1 ((ub E3).map .t))) (ne (E := E4) (by omega))) (sl_slice _) j.state (by omega)
  rw [← hE5] at q5
  have q6 := own18 (snap_push (g := (((H.empty.push (.row 31 9 [.t j.t])).push (.row 5 1 ((ub E2).map .t))).push (.row 5 1 ((ub E3).map .t))).push (.row 5 1 ((ub E4).map .t))) (ne (E := E5) (by omega))) (sl_slice _) j.left (by omega)
  rw [← hE6] at q6
  have q7 := own18 (snap_push (g := ((((H.empty.push (.row 31 9 [.t j.t])).push (.row 5 1 ((ub E2).map .t))).push (.row 5 1 ((ub E3).map .t))).push (.row 5 1 ((ub E4).map .t))).push (.row 5 1 ((ub E5).map .t))) (ne (E := E6) (by omega))) (sl_slice _) j.due (by omega)
  rw [← hE7] at q7
  have q8 := own18 (snap_push (g := (((((H.empty.push (.row 31 9 [.t j.t])).push (.row 5 1 ((ub E2).map .t))).push (.row 5 1 ((ub E3).map .t))).push (.row 5 1 ((ub E4).map .t))).push (.row 5 1 ((ub E5).map .t))).push (.row 5 1 ((ub E6).map .t))) (ne (E := E7) (by omega))) (sl_slice _) j.till (by omega)
  rw [← hE8] at q8
  have q9 := c62 (c := 34) (h := ((((((((H.empty.push (.row 31 9 [.t j.t])).push (.row 5 1 ((ub E2).map .t))).push (.row 5 1 ((ub E3).map .t))).push (.row 5 1 ((ub E4).map .t))).push (.row 5 1 ((ub E5).map .t))).push (.row 5 1 ((ub E6).map .t))).push (.row 5 1 ((ub E7).map .t))).push (.row 5 1 ((ub E8).map .t)))) (id := 7) (n := E8.length) (l := E8) rfl hv hb rfl rfl (by omega)
  rw [← hJ] at q9
  clear hE1 hE2 hE3 hE4 hE5 hE6 hE7 hE8 l1 l2 l3 l4 l5 l6 l7 l8 ne hJ hsz hb
  simp only [push_next, empty_next, Nat.zero_add, Nat.reduceAdd] at q2 q3 q4 q5 q6 q7 q8 q9
  simp -implicitDefEqProofs (disch := omega) [q50, q2, q3, q4, q5, q6, q7, q8, q9, hv.cells1]
  exact ⟨_, _, ⟨rfl, rfl⟩, by simp⟩
theorem c34 {c : FuncId} (j : Job) {vs : List (ByteArray × Int × Int × ByteArray)} (hv : Slice j.vars (vs.map varT)) (hb : bulkOK vs) (hn : j.node.size ≤ 1500000) (h : H) (hm : md c 34 = .pure) :
    callD (cx.at c) (call cx prim) 34 [.t j.t] h = some (.t (.slice (ub (encJ j vs))), h) := by
  obtain ⟨id, h', q, ho⟩ := k34 j hv hb hn
  refine pureT (ts := [j.t]) (d' := .t (.slice (ub (encJ j vs)))) cb34 hm q ?_ rfl
  have h1 : h'.els id (encJ j vs).length = some (5, 1, (ub (encJ j vs)).map .t) := by simp [H.els, ho, ub]
  have h2 : ((((ub (encJ j vs)).map D.t).drop 0).take (encJ j vs).length) = (ub (encJ j vs)).map .t := by
    rw [List.drop_zero, List.take_of_length_le (by simp [ub])]
  have h3 : 0 + (encJ j vs).length ≤ ((ub (encJ j vs)).map D.t).length := by simp [ub]
  simp only [snapOut, snap_def, snapF_row, h1, h2, h3, if_true, allM_map_t, Option.map_some]
end Go.Proofs.Ytccajagfgdchlaa.Kp
