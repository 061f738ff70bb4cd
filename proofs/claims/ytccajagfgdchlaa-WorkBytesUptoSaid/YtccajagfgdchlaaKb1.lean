import Derived.Test.YtccajagfgdchlaaJ1
import Derived.Test.YtccajagfgdchlaaS6
set_option linter.unusedSimpArgs false
set_option linter.unusedVariables false
set_option linter.unusedSectionVars false
namespace Go.Proofs.Ytccajagfgdchlaa
open Vai
set_option maxHeartbeats 0
theorem append_at {h : H} {id n : Nat} {l ys : List UInt8} {x : D} (ho : h.objs id = some (.row 5 1 ((ub l).map .t))) (hn : n = l.length) (hsrc : sourceD h x = some ((ub ys).map .t)) (hl : l.length + ys.length ≤ 1000000000) :
    appendD Try.prog h 22 (.row id 0 n n) x = some (.row id 0 (l ++ ys).length (l ++ ys).length, h.set id (.row 5 1 ((ub (l ++ ys)).map .t))) := by
  subst hn
  have hc : ((ub ys).map D.t).all (fun d => d.cells.length == 1) = true := by
    have := ub_cells ys
    simp only [List.all_eq_true, List.mem_map] at this ⊢
    rintro _ ⟨y, hy, rfl⟩
    have := this y hy
    simpa [D.cells] using this
  have he : h.els id l.length = some (5, 1, (ub l).map .t) := by simp [H.els, ho, ub]
  have hm : h.mays id ((ub ys).map D.t) = true := mays_trees _ _ _
  have hz : (T.int .u8 0).cells.length = 1 := rfl
  unfold appendD
  simp only [tk22, sz5, byt5, zero5, hsrc, hc, hz, he, hm, List.length_map, ub_len, List.length_append]
  simp only [and_self, and_true, true_and, if_true, Nat.le_refl, Nat.lt_add_one, Nat.lt_irrefl, Nat.zero_lt_one]
  rw [if_pos ⟨by omega, by omega⟩]
  simp [ub]
abbrev varT (v : ByteArray × Int × Int × ByteArray) : T := .agg [.str v.1, .int .i64 v.2.1, .int .i64 v.2.2.1, .str v.2.2.2]
def encV (v : ByteArray × Int × Int × ByteArray) : List UInt8 := be8 v.1.size ++ v.1.data.toList ++ be8 v.2.1 ++ be8 v.2.2.1 ++ (be8 v.2.2.2.size ++ v.2.2.2.data.toList)
def encVs (l : List (ByteArray × Int × Int × ByteArray)) : List UInt8 := (l.map encV).flatten
theorem k76 {h : H} {id n : Nat} {l : List UInt8} (m : Int) (ho : h.objs id = some (.row 5 1 ((ub l).map .t))) (hn : n = l.length) (hl : l.length ≤ 100000000) :
    call cx prim 76 [.row id 0 n n, .t (.int .i64 m)] h = some (.row id 0 (l ++ be8 m).length (l ++ be8 m).length, h.set id (.row 5 1 ((ub (l ++ be8 m)).map .t))) := by
  rw [call_run rfl Try.func76 ok76 nd76 rfl (Nat.le_of_ble_eq_true rfl) rfl rfl]
  have q := append_at (x := .t (sl (ub (be8 m)))) ho hn ((sl_slice _).source _) (by rw [bek_len]; omega)
  simp -implicitDefEqProofs [c50 (c := 76) m _ rfl, q]
theorem k77 {h : H} {id n : Nat} {l : List UInt8} (s : ByteArray) (ho : h.objs id = some (.row 5 1 ((ub l).map .t))) (hn : n = l.length) (hl : l.length ≤ 100000000) (hs : s.size ≤ 2000000) :
    call cx prim 77 [.row id 0 n n, .t (.str s)] h = some (.row id 0 (l ++ (be8 s.size ++ s.data.toList)).length (l ++ (be8 s.size ++ s.data.toList)).length, h.set id (.row 5 1 ((ub (l ++ (be8 s.size ++ s.data.toList))).map .t))) := by
  rw [call_run rfl Try.func77 ok77 nd77 rfl (Nat.le_of_ble_eq_true rfl) rfl rfl]
  have hsz : s.data.toList.length = s.size := by simp
  have q19 := fun h => pureNew (cc := cx.at 77) (h := h) cb19 rfl (s19 (b := .nilSlice) (bs := []) s Slice.nil (by simp) hs) rfl
  rw [List.nil_append] at q19
  have q := append_at (x := .t (sl (ub (be8 s.size ++ s.data.toList)))) ho hn ((sl_slice _).source _) (by rw [List.length_append, bek_len]; omega)
  simp -implicitDefEqProofs [q19, q]
theorem c76 {c : FuncId} {h : H} {id n : Nat} {l : List UInt8} (m : Int) (hm : md c 76 = .keep) (ho : h.objs id = some (.row 5 1 ((ub l).map .t))) (hn : n = l.length) (hl : l.length ≤ 100000000) :
    callD (cx.at c) (call cx prim) 76 [.row id 0 n n, .t (.int .i64 m)] h = some (.row id 0 (l ++ be8 m).length (l ++ be8 m).length, h.set id (.row 5 1 ((ub (l ++ be8 m)).map .t))) := keepT cb76 hm (k76 m ho hn hl)
theorem c77 {c : FuncId} {h : H} {id n : Nat} {l : List UInt8} (s : ByteArray) (hm : md c 77 = .keep) (ho : h.objs id = some (.row 5 1 ((ub l).map .t))) (hn : n = l.length) (hl : l.length ≤ 100000000) (hs : s.size ≤ 2000000) :
    callD (cx.at c) (call cx prim) 77 [.row id 0 n n, .t (.str s)] h = some (.row id 0 (l ++ (be8 s.size ++ s.data.toList)).length (l ++ (be8 s.size ++ s.data.toList)).length, h.set id (.row 5 1 ((ub (l ++ (be8 s.size ++ s.data.toList))).map .t))) := keepT cb77 hm (k77 s ho hn hl hs)
/-- One variable is laid behind. -/
theorem loop62 {h : H} {id : Nat} {B : List UInt8} {x : T} {vs : List (ByteArray × Int × Int × ByteArray)} (hx : Slice x (vs.map varT)) (hlen : vs.length ≤ 2000000) (hB : B.length + (encVs vs).length ≤ 90000000) (hstr : ∀ v ∈ vs, v.1.size ≤ 2000000 ∧ v.2.2.2.size ≤ 2000000)
    (st : St) (sn : st.n = 49) (sh : st.h = h.set id (.row 5 1 ((ub B).map .t))) (e0' : st.env 0 = .row id 0 B.length B.length) (e1' : st.env 1 = .t x) (e5' : st.env 5 = .t (.int .i64 0)) :
    ∃ st', loopω (LB cx prim 62 Try.f62 0) st = some (.exit 0, st') ∧ st'.n = 49 ∧ st'.h = h.set id (.row 5 1 ((ub (B ++ encVs vs)).map .t)) ∧ st'.env 0 = .row id 0 (B ++ encVs vs).length (B ++ encVs vs).length := by
  have hlx := fun hh => hx.len (P := Try.prog) (t := 29) tk29 hh
  rw [List.length_map] at hlx
  obtain ⟨x', st', hLp, rfl, h⟩ := loop_up (f := LB cx prim 62 Try.f62 0) (st := st) vs.length
    (fun k st => st.n = 49 ∧ (∃ L : List UInt8, L = B ++ encVs (vs.take k) ∧ st.h = h.set id (.row 5 1 ((ub L).map .t)) ∧ st.env 0 = .row id 0 L.length L.length) ∧ st.env 1 = .t x ∧ st.env 5 = .t (.int .i64 k))
    (fun x' st => x' = .exit 0 ∧ st.n = 49 ∧ st.h = h.set id (.row 5 1 ((ub (B ++ encVs vs)).map .t)) ∧ st.env 0 = .row id 0 (B ++ encVs vs).length (B ++ encVs vs).length)
    ⟨sn, ⟨B, by simp [encVs], sh, e0'⟩, e1', e5'⟩ (by
    rintro k ⟨nn, env, g⟩ hk ⟨rfl, ⟨L, hL, hg, e0⟩, e1, e5⟩
    simp only at hg e0 e1 e5
    subst hg
    rw [LB_run nd62 rfl]
    by_cases hk' : k < vs.length
    · obtain ⟨v, hv⟩ : ∃ v, vs[k]? = some v := ⟨vs[k], by simp [hk']⟩
      have hxe : x = .slice (vs.map varT) := hx.eq_of_ne (by intro e; have := congrArg List.length e; simp at this; subst this; simp at hk')
      subst hxe
      have hget : (vs.map varT)[k]? = some (varT v) := by simp [hv]
      have hm := hstr v (List.mem_of_getElem? hv)
      have hnext : encVs (vs.take (k + 1)) = encVs (vs.take k) ++ encV v := by
        rw [List.take_add_one, hv]
        simp [encVs]
      have hle : (encVs (vs.take (k + 1))).length ≤ (encVs vs).length := by
        have : encVs vs = encVs (vs.take (k + 1)) ++ encVs (vs.drop (k + 1)) := by
          simp only [encVs, ← List.flatten_append, ← List.map_append, List.take_append_drop]
        rw [this, List.length_append]
        omega
      have hb : L.length + (encV v).length ≤ 90000000 := by
        rw [hL, List.length_append]
        rw [hnext, List.length_append] at hle
        omega
      have hev : (encV v).length = 8 + v.1.data.toList.length + 8 + 8 + (8 + v.2.2.2.data.toList.length) := by simp only [encV, List.length_append, bek_len]
      obtain ⟨L1, hL1⟩ : ∃ L1, L1 = L ++ (be8 v.1.size ++ v.1.data.toList) := ⟨_, rfl⟩
      obtain ⟨L2, hL2⟩ : ∃ L2, L2 = L1 ++ be8 v.2.1 := ⟨_, rfl⟩
      obtain ⟨L3, hL3⟩ : ∃ L3, L3 = L2 ++ be8 v.2.2.1 := ⟨_, rfl⟩
      obtain ⟨L4, hL4⟩ : ∃ L4, L4 = L3 ++ (be8 v.2.2.2.size ++ v.2.2.2.data.toList) := ⟨_, rfl⟩
      have n1 : L1.length ≤ 90000000 := by rw [hL1]; simp only [List.length_append, bek_len]; omega
      have n2 : L2.length ≤ 90000000 := by rw [hL2, hL1]; simp only [List.length_append, bek_len]; omega
      have n3 : L3.length ≤ 90000000 := by rw [hL3, hL2, hL1]; simp only [List.length_append, bek_len]; omega
      have q1 := c77 (c := 62) (h := h.set id (.row 5 1 ((ub L).map .t))) (id := id) (l := L) v.1 rfl (by simp) rfl (by omega) hm.1
      have q2 := c76 (c := 62) (h := h.set id (.row 5 1 ((ub L1).map .t))) (id := id) (l := L1) v.2.1 rfl (by simp) rfl (by omega)
      have q3 := append_at (h := h.set id (.row 5 1 ((ub L2).map .t))) (id := id) (l := L2) (x := .t (sl (ub (be8 v.2.2.1)))) (by simp) rfl ((sl_slice _).source _) (by rw [bek_len]; omega)
      have q4 := c77 (c := 62) (h := h.set id (.row 5 1 ((ub L3).map .t))) (id := id) (l := L3) v.2.2.2 rfl (by simp) rfl (by omega) hm.2
      have fin : L4 = B ++ encVs (vs.take (k + 1)) := by rw [hnext, hL4, hL3, hL2, hL1, hL]; simp [encV]
      rw [← hL1] at q1
      rw [← hL2] at q2
      rw [← hL3] at q3
      rw [← hL4] at q4
      simp only [set_set] at q1 q2 q3 q4
      clear hL1 hL2 hL3 hL4 n1 n2 n3 hb hev hle hnext hL hx hlx
      simp -implicitDefEqProofs (disch := omega) [e0, e1, e5, hget, hk', q1, q2, q3, q4, c50 (c := 62) v.2.2.1 _ rfl, fin]
    · obtain rfl : k = vs.length := by omega
      rw [List.take_length] at hL
      simp -implicitDefEqProofs (disch := omega) [e0, e1, e5, hlx, hL])
  exact ⟨st', hLp, h⟩
def bulkOK (vs : List (ByteArray × Int × Int × ByteArray)) : Prop := vs.length ≤ 2000000 ∧ (encVs vs).length ≤ 60000000 ∧ ∀ v ∈ vs, v.1.size ≤ 2000000 ∧ v.2.2.2.size ≤ 2000000
theorem k62 {h : H} {id n : Nat} {l : List UInt8} {x : T} {vs : List (ByteArray × Int × Int × ByteArray)} (hx : Slice x (vs.map varT)) (hb : bulkOK vs) (ho : h.objs id = some (.row 5 1 ((ub l).map .t))) (hn : n = l.length) (hl : l.length ≤ 20000000) :
    call cx prim 62 [.row id 0 n n, .t x] h = some (.row id 0 (l ++ be8 vs.length ++ encVs vs).length (l ++ be8 vs.length ++ encVs vs).length, h.set id (.row 5 1 ((ub (l ++ be8 vs.length ++ encVs vs)).map .t))) := by
  rw [call_run rfl Try.func62 ok62 nd62 rfl (Nat.le_of_ble_eq_true rfl) rfl rfl]
  obtain ⟨b1, b2, b3⟩ := hb
  have hlx := fun hh => hx.len (P := Try.prog) (t := 29) tk29 hh
  rw [List.length_map] at hlx
  have q := c76 (c := 62) (h := h) (id := id) (n := n) (l := l) vs.length rfl ho hn (by omega)
  obtain ⟨B, hB⟩ : ∃ B, B = l ++ be8 vs.length := ⟨_, rfl⟩
  have hBl : B.length = l.length + 8 := by rw [hB, List.length_append, bek_len]
  rw [← hB] at q ⊢
  simp -implicitDefEqProofs (disch := omega) [hx.cells1, hlx, q]
  generalize hL : loopω (LB cx prim 62 Try.f62 0) _ = L
  obtain ⟨⟨nn, env, g⟩, hL2, rfl, rfl, e0⟩ := loop_at hL (loop62 (h := h) (id := id) (B := B) hx b1 (by omega) b3 _ rfl rfl (by simp) (by simp) (by simp))
  subst hL2
  simp only at e0
  simp -implicitDefEqProofs [e0]
theorem c62 {c : FuncId} {h : H} {id n : Nat} {l : List UInt8} {x : T} {vs : List (ByteArray × Int × Int × ByteArray)} (hm : md c 62 = .keep) (hx : Slice x (vs.map varT)) (hb : bulkOK vs) (ho : h.objs id = some (.row 5 1 ((ub l).map .t))) (hn : n = l.length) (hl : l.length ≤ 20000000) :
    callD (cx.at c) (call cx prim) 62 [.row id 0 n n, .t x] h = some (.row id 0 (l ++ be8 vs.length ++ encVs vs).length (l ++ be8 vs.length ++ encVs vs).length, h.set id (.row 5 1 ((ub (l ++ be8 vs.length ++ encVs vs)).map .t))) := keepT cb62 hm (k62 hx hb ho hn hl)
theorem snap_push {g : H} {E : List UInt8} (hne : E ≠ []) : snap (g.push (.row 5 1 ((ub E).map .t))) (.row g.next 0 E.length E.length) = some (sl (ub E)) := by
  have hne' : ub E ≠ [] := by simp [ub, hne]
  have := snap_new (h := g) (bt := 5) (s := 1) (xs := ub E)
  rw [nrow_cons hne', ub_len] at this
  exact this
theorem own18 {g : H} {d : D} {x : T} {E : List UInt8} (hd : snap g d = some x) (hx : Slice x (ub E)) (n : Int) (hE : E.length ≤ 4000000) : callD (cx.at 34) (call cx prim) 18 [d, .t (.int .i64 n)] g = some (.row g.next 0 (E ++ be8 n).length (E ++ be8 n).length, g.push (.row 5 1 ((ub (E ++ be8 n)).map .t))) := by
  have hne : ub (E ++ be8 n) ≠ [] := by
    intro e
    have := congrArg List.length e
    simp [ub, bek_len] at this
  have := ownNew' (cc := cx.at 34) (h := g) (args := [d, .t (.int .i64 n)]) (ts := [x, .int .i64 n]) cb18 rfl (by simp only [allM, hd, snap_t]) (s18 n hx hE) (.inl (ub_flat _))
  rw [nrow_cons hne, ub_len] at this
  exact this
theorem own19 {g : H} {d : D} {x : T} {E : List UInt8} (hd : snap g d = some x) (hx : Slice x (ub E)) (s : ByteArray) (hE : E.length ≤ 2000000) (hs : s.size ≤ 2000000) : callD (cx.at 34) (call cx prim) 19 [d, .t (.str s)] g = some (.row g.next 0 (E ++ be8 s.size ++ s.data.toList).length (E ++ be8 s.size ++ s.data.toList).length, g.push (.row 5 1 ((ub (E ++ be8 s.size ++ s.data.toList)).map .t))) := by
  have hne : ub (E ++ be8 s.size ++ s.data.toList) ≠ [] := by
    intro e
    have := congrArg List.length e
    simp [ub, bek_len] at this
  have := ownNew' (cc := cx.at 34) (h := g) (args := [d, .t (.str s)]) (ts := [x, .str s]) cb19 rfl (by simp only [allM, hd, snap_t]) (s19 s hx hE hs) (.inl (ub_flat _))
  rw [nrow_cons hne, ub_len] at this
  exact this
theorem own20 {g : H} {d : D} {x : T} {E : List UInt8} (hd : snap g d = some x) (hx : Slice x (ub E)) (s : Bool) (hE : E.length ≤ 2000000) : callD (cx.at 34) (call cx prim) 20 [d, .t (.bool s)] g = some (.row g.next 0 (E ++ [if s then 1 else 0]).length (E ++ [if s then 1 else 0]).length, g.push (.row 5 1 ((ub (E ++ [if s then 1 else 0])).map .t))) := by
  have hne : ub (E ++ [if s then 1 else 0]) ≠ [] := by
    intro e
    have := congrArg List.length e
    simp [ub] at this
  have := ownNew' (cc := cx.at 34) (h := g) (args := [d, .t (.bool s)]) (ts := [x, .bool s]) cb20 rfl (by simp only [allM, hd, snap_t]) (s20 s hx hE) (.inl (ub_flat _))
  rw [nrow_cons hne, ub_len] at this
  exact this
def encJ (j : Job) (vs : List (ByteArray × Int × Int × ByteArray)) : List UInt8 := be8 j.id ++ be8 j.inst ++ be8 j.node.size ++ j.node.data.toList ++ [if j.undo then 1 else 0] ++ be8 j.state ++ be8 j.left ++ be8 j.due ++ be8 j.till ++ be8 vs.length ++ encVs vs
theorem k34 (j : Job) {vs : List (ByteArray × Int × Int × ByteArray)} (hv : Slice j.vars (vs.map varT)) (hb : bulkOK vs) (hn : j.node.size ≤ 1500000) :
    ∃ id h', call cx prim 34 [.t j.t] .empty = some (.row id 0 (encJ j vs).length (encJ j vs).length, h') ∧ h'.objs id = some (.row 5 1 ((ub (encJ j vs)).map .t)) := by
  rw [call_run rfl Try.func34 ok34 nd34 rfl (Nat.le_of_ble_eq_true rfl) rfl rfl]
  have hsz : j.node.data.toList.length = j.node.size := by simp
  have q50 := fun g => c50 (c := 34) j.id g rfl
  obtain ⟨E1, hE1⟩ : ∃ E, E = be8 j.id := ⟨_, rfl⟩
  obtain ⟨E2, hE2⟩ : ∃ E, E = E1 ++ be8 j.inst := ⟨_, rfl⟩
  obtain ⟨E3, hE3⟩ : ∃ E, E = E2 ++ be8 j.node.size ++ j.node.data.toList := ⟨_, rfl⟩
  obtain ⟨E4, hE4⟩ : ∃ E, E = E3 ++ [if j.undo then 1 else 0] := ⟨_, rfl⟩
  obtain ⟨E5, hE5⟩ : ∃ E, E = E4 ++ be8 j.state := ⟨_, rfl⟩
  obtain ⟨E6, hE6⟩ : ∃ E, E = E5 ++ be8 j.left := ⟨_, rfl⟩
  obtain ⟨E7, hE7⟩ : ∃ E, E = E6 ++ be8 j.due := ⟨_, rfl⟩
  obtain ⟨E8, hE8⟩ : ∃ E, E = E7 ++ be8 j.till := ⟨_, rfl⟩
  have hJ : encJ j vs = E8 ++ be8 vs.length ++ encVs vs := by rw [hE8, hE7, hE6, hE5, hE4, hE3, hE2, hE1, encJ]
  have l1 : E1.length = 8 := by rw [hE1, bek_len]
  have l2 : E2.length = 16 := by rw [hE2, List.length_append, bek_len, l1]
  have l3 : E3.length = 24 + j.node.size := by rw [hE3, List.length_append, List.length_append, bek_len, l2, hsz]
  have l4 : E4.length = 25 + j.node.size := by rw [hE4, List.length_append, l3]; simp; omega
  have l5 : E5.length = 33 + j.node.size := by rw [hE5, List.length_append, bek_len, l4]; omega
  have l6 : E6.length = 41 + j.node.size := by rw [hE6, List.length_append, bek_len, l5]; omega
  have l7 : E7.length = 49 + j.node.size := by rw [hE7, List.length_append, bek_len, l6]; omega
  have l8 : E8.length = 57 + j.node.size := by rw [hE8, List.length_append, bek_len, l7]; omega
  have ne : ∀ {E : List UInt8}, 0 < E.length → E ≠ [] := fun h e => by subst e; simp at h
  rw [← hE1] at q50
  have q2 := own18 (g := H.empty.push (.row 31 9 [.t j.t])) (d := .t (sl (ub E1))) (snap_t _ _) (sl_slice _) j.inst (by omega)
  rw [← hE2] at q2
  have q3 := own19 (snap_push (g := H.empty.push (.row 31 9 [.t j.t])) (ne (E := E2) (by omega))) (sl_slice _) j.node (by omega) (by omega)
  rw [← hE3] at q3
  have q4 := own20 (snap_push (g := (H.empty.push (.row 31 9 [.t j.t])).push (.row 5 1 ((ub E2).map .t))) (ne (E := E3) (by omega))) (sl_slice _) j.undo (by omega)
  rw [← hE4] at q4
  have q5 := own18 (snap_push (g := ((H.empty.push (.row 31 9 [.t j.t])).push (.row 5 1 ((ub E2).map .t))).push (.row 5 1 ((ub E3).map .t))) (ne (E := E4) (by omega))) (sl_slice _) j.state (by omega)
  rw [← hE5] at q5
  have q6 := own18 (snap_push (g := (((H.empty.push (.row 31 9 [.t j.t])).push (.row 5 1 ((ub E2).map .t))).push (.row 5 1 ((ub E3).map .t))).push (.row 5 1 ((ub E4).map .t))) (ne (E := E5) (by omega))) (sl_slice _) j.left (by omega)
  rw [← hE6] at q6
  have q7 := own18 (snap_push (g := ((((H.empty.push (.row 31 9 [.t j.t])).push (.row 5 1 ((ub E2).map .t))).push (.row 5 1 ((ub E3).map .t))).push (.row 5 1 ((ub E4).map .t))).push (.row 5 1 ((ub E5).map .t))) (ne (E := E6) (by omega))) (sl_slice _) j.due (by omega)
  rw [← hE7] at q7
  have q8 := own18 (snap_push (g := (((((H.empty.push (.row 31 9 [.t j.t])).push (.row 5 1 ((ub E2).map .t))).push (.row 5 1 ((ub E3).map .t))).push (.row 5 1 ((ub E4).map .t))).push (.row 5 1 ((ub E5).map .t))).push (.row 5 1 ((ub E6).map .t))) (ne (E := E7) (by omega))) (sl_slice _) j.till (by omega)
  rw [← hE8] at q8
  have q9 := c62 (c := 34) (h := ((((((((H.empty.push (.row 31 9 [.t j.t])).push (.row 5 1 ((ub E2).map .t))).push (.row 5 1 ((ub E3).map .t))).push (.row 5 1 ((ub E4).map .t))).push (.row 5 1 ((ub E5).map .t))).push (.row 5 1 ((ub E6).map .t))).push (.row 5 1 ((ub E7).map .t))).push (.row 5 1 ((ub E8).map .t)))) (id := 7) (n := E8.length) (l := E8) rfl hv hb rfl rfl (by omega)
  rw [← hJ] at q9
  clear hE1 hE2 hE3 hE4 hE5 hE6 hE7 hE8 l1 l2 l3 l4 l5 l6 l7 l8 ne hJ hsz hb
  simp only [push_next, empty_next, Nat.zero_add, Nat.reduceAdd] at q2 q3 q4 q5 q6 q7 q8 q9
  simp -implicitDefEqProofs (disch := omega) [q50, q2, q3, q4, q5, q6, q7, q8, q9, hv.cells1]
  exact ⟨_, _, ⟨rfl, rfl⟩, by simp⟩
theorem c34 {c : FuncId} (j : Job) {vs : List (ByteArray × Int × Int × ByteArray)} (hv : Slice j.vars (vs.map varT)) (hb : bulkOK vs) (hn : j.node.size ≤ 1500000) (h : H) (hm : md c 34 = .pure) :
    callD (cx.at c) (call cx prim) 34 [.t j.t] h = some (.t (.slice (ub (encJ j vs))), h) := by
  obtain ⟨id, h', q, ho⟩ := k34 j hv hb hn
  refine pureT (ts := [j.t]) (d' := .t (.slice (ub (encJ j vs)))) cb34 hm q ?_ rfl
  have h1 : h'.els id (encJ j vs).length = some (5, 1, (ub (encJ j vs)).map .t) := by simp [H.els, ho, ub]
  have h2 : ((((ub (encJ j vs)).map D.t).drop 0).take (encJ j vs).length) = (ub (encJ j vs)).map .t := by
    rw [List.drop_zero, List.take_of_length_le (by simp [ub])]
  have h3 : 0 + (encJ j vs).length ≤ ((ub (encJ j vs)).map D.t).length := by simp [ub]
  simp only [snapOut, snap_def, snapF_row, h1, h2, h3, if_true, allM_map_t, Option.map_some]
theorem lv58 : leaves Try.prog 58 = some [.str, .int, .int, .str] := by kernel_rfl
theorem varT_inj {v w : ByteArray × Int × Int × ByteArray} : varT v = varT w ↔ v = w := by
  obtain ⟨a, k, n, s⟩ := v
  obtain ⟨a', k', n', s'⟩ := w
  simp
theorem neq_var {v w : ByteArray × Int × Int × ByteArray} (h : H) : binD Try.prog h .neq 58 (.t (varT v)) (.t (varT w)) = some (.t (.bool (!decide (v = w)))) := by
  obtain ⟨a, k, n, s⟩ := v
  obtain ⟨a', k', n', s'⟩ := w
  simp [binD, eqD, lv58, eqCells, eqCell, eqI, eqS]
theorem loop61 {x y : T} {vs ws : List (ByteArray × Int × Int × ByteArray)} (hx : Slice x (vs.map varT)) (hy : Slice y (ws.map varT)) (hv : vs.length ≤ 2000000) (hl : vs.length = ws.length)
    (st : St) (sn : st.n = 26) (e0' : st.env 0 = .t x) (e1' : st.env 1 = .t y) (e5' : st.env 5 = .t (.int .i64 0)) :
    ∃ x' st', loopω (LB cx prim 61 Try.f61 0) st = some (x', st') ∧ st'.n = 26 ∧ ((x' = .exit 0 ∧ vs = ws) ∨ (x' = .ret ∧ vs ≠ ws ∧ st'.env 4 = .t (.bool false))) := by
  have hlx := fun hh => hx.len (P := Try.prog) (t := 29) tk29 hh
  rw [List.length_map] at hlx
  obtain ⟨x', st', hLp, h⟩ := loop_up (f := LB cx prim 61 Try.f61 0) (st := st) vs.length
    (fun k st => st.n = 26 ∧ vs.take k = ws.take k ∧ st.env 0 = .t x ∧ st.env 1 = .t y ∧ st.env 5 = .t (.int .i64 k))
    (fun x' st' => st'.n = 26 ∧ ((x' = .exit 0 ∧ vs = ws) ∨ (x' = .ret ∧ vs ≠ ws ∧ st'.env 4 = .t (.bool false))))
    ⟨sn, by simp, e0', e1', e5'⟩ (by
    clear e0' e1' e5'
    rintro k ⟨nn, env, h⟩ hk ⟨rfl, ht, e0, e1, e5⟩
    simp only at e0 e1 e5
    rw [LB_run nd61 rfl]
    by_cases hk' : k < vs.length
    · have hk2 : k < ws.length := by omega
      have hxe : x = .slice (vs.map varT) := hx.eq_of_ne (by intro e; have := congrArg List.length e; simp at this; subst this; simp at hk')
      have hye : y = .slice (ws.map varT) := hy.eq_of_ne (by intro e; have := congrArg List.length e; simp at this; subst this; simp at hk2)
      subst hxe hye
      obtain ⟨v, hv1⟩ : ∃ v, vs[k]? = some v := ⟨vs[k], by simp [hk']⟩
      obtain ⟨w, hw1⟩ : ∃ w, ws[k]? = some w := ⟨ws[k], by simp [hk2]⟩
      have g1 : (vs.map varT)[k]? = some (varT v) := by simp [hv1]
      have g2 : (ws.map varT)[k]? = some (varT w) := by simp [hw1]
      have hnext : vs.take (k + 1) = ws.take (k + 1) ↔ v = w := by
        rw [List.take_add_one, List.take_add_one, hv1, hw1, ht]
        simp
      by_cases he : v = w
      · simp -implicitDefEqProofs (disch := omega) [-bin_neq_tagg, e0, e1, e5, g1, g2, hk', neq_var, he, hnext]
      · have hne : vs ≠ ws := fun e => he (by rw [e] at hv1; exact Option.some.inj (hv1.symm.trans hw1))
        simp -implicitDefEqProofs (disch := omega) [-bin_neq_tagg, e0, e1, e5, g1, g2, hk', neq_var, he, hne]
    · obtain rfl : k = vs.length := by omega
      have he : vs = ws := by rw [List.take_length, hl, List.take_length] at ht; exact ht
      simp -implicitDefEqProofs (disch := omega) [e0, e1, e5, hlx, he])
  exact ⟨x', st', hLp, h⟩
theorem s61 {x y : T} {vs ws : List (ByteArray × Int × Int × ByteArray)} (hx : Slice x (vs.map varT)) (hy : Slice y (ws.map varT)) (hv : vs.length ≤ 2000000) (hw : ws.length ≤ 2000000) :
    ∃ h', call cx prim 61 [.t x, .t y] .empty = some (.t (.bool (decide (vs = ws))), h') := by
  rw [call_run rfl Try.func61 ok61 nd61 rfl (Nat.le_of_ble_eq_true rfl) rfl rfl]
  have hlx := fun hh => hx.len (P := Try.prog) (t := 29) tk29 hh
  have hly := fun hh => hy.len (P := Try.prog) (t := 29) tk29 hh
  rw [List.length_map] at hlx hly
  by_cases hl : vs.length = ws.length
  · simp -implicitDefEqProofs (disch := omega) [hlx, hly, hx.cells1, hy.cells1, hl]
    generalize hL : loopω (LB cx prim 61 Try.f61 0) _ = R
    obtain ⟨x', ⟨nn, env, g⟩, hL2, rfl, h⟩ := loop61 hx hy hv hl _ rfl (by simp) (by simp) (by simp) |>.imp fun x' q => q.imp fun st' q => (hL ▸ q : R = some (x', st') ∧ _)
    subst hL2
    rcases h with ⟨rfl, h⟩ | ⟨rfl, h, h4⟩
    · simp -implicitDefEqProofs [h]
    · simp only at h4
      simp -implicitDefEqProofs [h, h4]
  · have hne : vs ≠ ws := fun e => hl (by rw [e])
    simp -implicitDefEqProofs (disch := omega) [hlx, hly, hx.cells1, hy.cells1, hl, hne]
theorem c61 {c : FuncId} {x y : T} {vs ws : List (ByteArray × Int × Int × ByteArray)} (hx : Slice x (vs.map varT)) (hy : Slice y (ws.map varT)) (hv : vs.length ≤ 2000000) (hw : ws.length ≤ 2000000) (h : H) (hm : md c 61 = .pure) :
    callD (cx.at c) (call cx prim) 61 [.t x, .t y] h = some (.t (.bool (decide (vs = ws))), h) := by
  obtain ⟨h', q⟩ := s61 hx hy hv hw
  exact pureT cb61 hm q rfl rfl
/-- Are these the same job? -/
def sameJ (a b : Job) (vs ws : List (ByteArray × Int × Int × ByteArray)) : Bool := decide (a.id = b.id) && decide (a.inst = b.inst) && decide (a.node = b.node) && (a.undo == b.undo) && decide (a.state = b.state) && decide (a.left = b.left) && decide (a.due = b.due) && decide (a.till = b.till) && decide (vs = ws)
theorem s33 {a b : Job} {vs ws : List (ByteArray × Int × Int × ByteArray)} (hx : Slice a.vars (vs.map varT)) (hy : Slice b.vars (ws.map varT)) (hv : vs.length ≤ 2000000) (hw : ws.length ≤ 2000000) :
    ∃ h', call cx prim 33 [.t a.t, .t b.t] .empty = some (.t (.bool (sameJ a b vs ws)), h') := by
  rw [call_run rfl Try.func33 ok33 nd33 rfl (Nat.le_of_ble_eq_true rfl) rfl rfl]
  have q61 := fun g => c61 (c := 33) hx hy hv hw g (by simp [md])
  by_cases h1 : a.id = b.id
  case neg => simp -implicitDefEqProofs (disch := omega) [eqS, hx.cells1, hy.cells1, h1, sameJ]
  by_cases h2 : a.inst = b.inst
  case neg => simp -implicitDefEqProofs (disch := omega) [eqS, hx.cells1, hy.cells1, h1, h2, sameJ]
  by_cases h3 : a.node = b.node
  case neg => simp -implicitDefEqProofs (disch := omega) [eqS, hx.cells1, hy.cells1, h1, h2, h3, sameJ]
  by_cases h4 : a.undo = b.undo
  case neg => simp -implicitDefEqProofs (disch := omega) [eqS, hx.cells1, hy.cells1, h1, h2, h3, h4, sameJ]
  by_cases h5 : a.state = b.state
  case neg => simp -implicitDefEqProofs (disch := omega) [eqS, hx.cells1, hy.cells1, h1, h2, h3, h4, h5, sameJ]
  by_cases h6 : a.left = b.left
  case neg => simp -implicitDefEqProofs (disch := omega) [eqS, hx.cells1, hy.cells1, h1, h2, h3, h4, h5, h6, sameJ]
  by_cases h7 : a.due = b.due
  case neg => simp -implicitDefEqProofs (disch := omega) [eqS, hx.cells1, hy.cells1, h1, h2, h3, h4, h5, h6, h7, sameJ]
  by_cases h8 : a.till = b.till
  case neg => simp -implicitDefEqProofs (disch := omega) [eqS, hx.cells1, hy.cells1, h1, h2, h3, h4, h5, h6, h7, h8, sameJ]
  simp -implicitDefEqProofs (disch := omega) [eqS, hx.cells1, hy.cells1, h1, h2, h3, h4, h5, h6, h7, h8, q61, sameJ]
end Go.Proofs.Ytccajagfgdchlaa
