import Derived.Test.YtccajagfgdchlaaKb1
set_option linter.unusedSimpArgs false
set_option linter.unusedVariables false
set_option linter.unusedSectionVars false
namespace Go.Proofs.Ytccajagfgdchlaa
open Vai
set_option maxHeartbeats 0
abbrev bufO (x : T) : AObj := .row 22 1 [.t x]
theorem k63 {h : H} {id : Nat} {x : T} {bs : List UInt8} (n : Int) (ho : h.objs id = some (bufO x)) (hx : Slice x (ub bs)) (hl : bs.length ≤ 2000000) :
    call cx prim 63 [.t (.int .i64 n), .ptr id 0 0 1] h = some (.tup [], h.set id (bufO (sl (ub (bs ++ be8 n))))) := by
  rw [call_run rfl Try.func63 ok63 nd63 rfl (Nat.le_of_ble_eq_true rfl) rfl rfl]
  obtain ⟨_, p13⟩ := s13 n hx hl
  have q13 := fun g => pureNew (cc := cx.at 63) (h := g) cb13 (by simp [md]) p13 rfl
  simp -implicitDefEqProofs (disch := omega) [ho, hx.cells1, q13, (sl_slice (ub (bs ++ be8 n))).cells1, parts_none hx.cells1]
theorem c63 {h : H} {x : T} {bs : List UInt8} (n : Int) (ho : h.objs 1 = some (bufO x)) (hx : Slice x (ub bs)) (hl : bs.length ≤ 2000000) :
    callD (cx.at 44) (call cx prim) 63 [.t (.int .i64 n), .ptr 1 0 0 1] h = some (.tup [], h.set 1 (bufO (sl (ub (bs ++ be8 n))))) := keepT cb63 (by simp [md]) (k63 n ho hx hl)
abbrev numF : D := .func (.func 63) [] [.ptr 1 0 0 1]
def be8s (l : List Int) : List UInt8 := (l.map fun n => be8 n).flatten
theorem loop44a {ns : List Int} {E : List UInt8} (hE : E.length + 8 * ns.length ≤ 2000000) {x : T} (st : St) (sn : st.n = 74) (o0' : ∃ o, st.h.objs 0 = some (.row 31 9 [o]) ∧ o = .t x) (o1' : st.h.objs 1 = some (bufO (sl (ub E)))) (nx : 1 < st.h.next) (e1' : st.env 1 = .ptr 0 0 0 1) (e3' : st.env 3 = .ptr 1 0 0 1) (e4' : st.env 4 = numF) (e36' : st.env 36 = .t (.slice (ns.map (.int .i64)))) (e37' : st.env 37 = .t (.int .i64 ns.length)) (e38' : st.env 38 = .t (.int .i64 0)) :
    ∃ st', loopω (LB cx prim 44 Try.f44 0) st = some (.exit 0, st') ∧ st'.n = 74 ∧ st'.h.objs 0 = some (.row 31 9 [.t x]) ∧ st'.h.objs 1 = some (bufO (sl (ub (E ++ be8s ns)))) ∧ 1 < st'.h.next ∧ st'.env 1 = .ptr 0 0 0 1 ∧ st'.env 3 = .ptr 1 0 0 1 ∧ st'.env 4 = numF := by
  obtain ⟨x', st', hLp, rfl, h⟩ := loop_up (f := LB cx prim 44 Try.f44 0) (st := st) ns.length
    (fun k st => st.n = 74 ∧ st.h.objs 0 = some (.row 31 9 [.t x]) ∧ (∃ L : List UInt8, L = E ++ be8s (ns.take k) ∧ st.h.objs 1 = some (bufO (sl (ub L)))) ∧ 1 < st.h.next ∧ st.env 1 = .ptr 0 0 0 1 ∧ st.env 3 = .ptr 1 0 0 1 ∧ st.env 4 = numF ∧ st.env 36 = .t (.slice (ns.map (.int .i64))) ∧ st.env 37 = .t (.int .i64 ns.length) ∧ st.env 38 = .t (.int .i64 k))
    (fun x' st' => x' = .exit 0 ∧ st'.n = 74 ∧ st'.h.objs 0 = some (.row 31 9 [.t x]) ∧ st'.h.objs 1 = some (bufO (sl (ub (E ++ be8s ns)))) ∧ 1 < st'.h.next ∧ st'.env 1 = .ptr 0 0 0 1 ∧ st'.env 3 = .ptr 1 0 0 1 ∧ st'.env 4 = numF)
    ⟨sn, by obtain ⟨o, h1, rfl⟩ := o0'; exact h1, ⟨E, by simp [be8s], o1'⟩, nx, e1', e3', e4', e36', e37', e38'⟩ (by
    clear o0' o1' nx e1' e3' e4' e36' e37' e38'
    rintro k ⟨nn, env, h⟩ hk ⟨rfl, o0, ⟨L, hL, o1⟩, nx, e1, e3, e4, e36, e37, e38⟩
    simp only at o0 o1 nx e1 e3 e4 e36 e37 e38
    rw [LB_run nd44 rfl]
    by_cases hk' : k < ns.length
    · obtain ⟨n, hn⟩ : ∃ n, ns[k]? = some n := ⟨ns[k], by simp [hk']⟩
      have hget : (ns.map (T.int .i64))[k]? = some (.int .i64 n) := by simp [hn]
      have hnext : be8s (ns.take (k + 1)) = be8s (ns.take k) ++ be8 n := by
        rw [List.take_add_one, hn]
        simp [be8s]
      have hlen : ∀ l : List Int, (be8s l).length = 8 * l.length := by
        intro l
        induction l with
        | nil => rfl
        | cons a l ih => simp only [be8s, List.map_cons, List.flatten_cons, List.length_append, bek_len, List.length_cons] at ih ⊢; omega
      have hL2 : L.length ≤ 2000000 := by
        rw [hL, List.length_append, hlen, List.length_take]
        omega
      have q := c63 n o1 (sl_slice _) hL2
      have fin : L ++ be8 n = E ++ be8s (ns.take (k + 1)) := by rw [hnext, hL, List.append_assoc]
      simp -implicitDefEqProofs (disch := omega) [o0, e1, e3, e4, e36, e37, e38, hget, hk', q, nx, fin]
    · obtain rfl : k = ns.length := by omega
      rw [List.take_length] at hL
      simp -implicitDefEqProofs (disch := omega) [o0, o1, nx, e1, e3, e4, e36, e37, e38, hL])
  exact ⟨st', hLp, h⟩
theorem loop44b {vs : List (ByteArray × Int × Int × ByteArray)} {xv : T} (hvl : vs.length ≤ 2000000) (hx : Slice xv (vs.map varT)) {E : List UInt8} (hE : E.length + (encVs vs).length ≤ 1400000) (hstr : ∀ v ∈ vs, v.1.size ≤ 2000000 ∧ v.2.2.2.size ≤ 2000000) (st : St) (sn : st.n = 74) (o1' : st.h.objs 1 = some (bufO (sl (ub E)))) (nx : 1 < st.h.next) (e3' : st.env 3 = .ptr 1 0 0 1) (e4' : st.env 4 = numF) (e47' : st.env 47 = .t xv) (e48' : st.env 48 = .t (.int .i64 vs.length)) (e49' : st.env 49 = .t (.int .i64 0)) :
    ∃ st', loopω (LB cx prim 44 Try.f44 2) st = some (.exit 2, st') ∧ st'.n = 74 ∧ st'.h.objs 1 = some (bufO (sl (ub (E ++ encVs vs)))) ∧ st'.env 3 = .ptr 1 0 0 1 := by
  obtain ⟨x', st', hLp, rfl, h⟩ := loop_up (f := LB cx prim 44 Try.f44 2) (st := st) vs.length
    (fun k st => st.n = 74 ∧ (∃ L : List UInt8, L = E ++ encVs (vs.take k) ∧ st.h.objs 1 = some (bufO (sl (ub L)))) ∧ 1 < st.h.next ∧ st.env 3 = .ptr 1 0 0 1 ∧ st.env 4 = numF ∧ st.env 47 = .t xv ∧ st.env 48 = .t (.int .i64 vs.length) ∧ st.env 49 = .t (.int .i64 k))
    (fun x' st' => x' = .exit 2 ∧ st'.n = 74 ∧ st'.h.objs 1 = some (bufO (sl (ub (E ++ encVs vs)))) ∧ st'.env 3 = .ptr 1 0 0 1)
    ⟨sn, ⟨E, by simp [encVs], o1'⟩, nx, e3', e4', e47', e48', e49'⟩ (by
    clear o1' nx e3' e4' e47' e48' e49'
    rintro k ⟨nn, env, h⟩ hk ⟨rfl, ⟨L, hL, o1⟩, nx, e3, e4, e47, e48, e49⟩
    simp only at o1 nx e3 e4 e47 e48 e49
    rw [LB_run nd44 rfl]
    by_cases hk' : k < vs.length
    · obtain ⟨v, hv⟩ : ∃ v, vs[k]? = some v := ⟨vs[k], by simp [hk']⟩
      have hxe : xv = .slice (vs.map varT) := hx.eq_of_ne (by intro e; have := congrArg List.length e; simp at this; subst this; simp at hk')
      subst hxe
      have hget : (vs.map varT)[k]? = some (varT v) := by simp [hv]
      have hm := hstr v (List.mem_of_getElem? hv)
      have hnext : encVs (vs.take (k + 1)) = encVs (vs.take k) ++ encV v := by
        rw [List.take_add_one, hv]
        simp [encVs]
      have hle : (encVs (vs.take (k + 1))).length ≤ (encVs vs).length := by
        have : encVs vs = encVs (vs.take (k + 1)) ++ encVs (vs.drop (k + 1)) := by
          simp only [encVs, ← List.flatten_append, ← List.map_append, List.take_append_drop]
        rw [this, List.length_append]
        omega
      have hb : L.length + (encV v).length ≤ 1400000 := by
        rw [hL, List.length_append]
        rw [hnext, List.length_append] at hle
        omega
      have hev : (encV v).length = 8 + v.1.data.toList.length + 8 + 8 + (8 + v.2.2.2.data.toList.length) := by simp only [encV, List.length_append, bek_len]
      obtain ⟨L1, hL1⟩ : ∃ L1, L1 = L ++ be8 v.1.size ++ v.1.data.toList := ⟨_, rfl⟩
      obtain ⟨L2, hL2⟩ : ∃ L2, L2 = L1 ++ be8 v.2.1 := ⟨_, rfl⟩
      obtain ⟨L3, hL3⟩ : ∃ L3, L3 = L2 ++ be8 v.2.2.1 := ⟨_, rfl⟩
      obtain ⟨L4, hL4⟩ : ∃ L4, L4 = L3 ++ be8 v.2.2.2.size ++ v.2.2.2.data.toList := ⟨_, rfl⟩
      have n1 : L1.length ≤ 1400000 := by rw [hL1]; simp only [List.length_append, bek_len]; omega
      have n2 : L2.length ≤ 1400000 := by rw [hL2, hL1]; simp only [List.length_append, bek_len]; omega
      have n3 : L3.length ≤ 1400000 := by rw [hL3, hL2, hL1]; simp only [List.length_append, bek_len]; omega
      obtain ⟨_, p1⟩ := s14 v.1 (sl_slice (ub L)) (by omega) hm.1
      rw [← hL1] at p1
      have q1 := fun g => pureNew (cc := cx.at 44) (h := g) cb14 (by simp [md]) p1 rfl
      have q2 := c63 (h := (h.push (.row 58 4 [.t (varT v)])).set 1 (bufO (sl (ub L1)))) v.2.1 (by simp) (sl_slice (ub L1)) (by omega)
      rw [← hL2, set_set] at q2
      have q3 := c63 (h := (h.push (.row 58 4 [.t (varT v)])).set 1 (bufO (sl (ub L2)))) v.2.2.1 (by simp) (sl_slice (ub L2)) (by omega)
      rw [← hL3, set_set] at q3
      obtain ⟨_, p4⟩ := s14 v.2.2.2 (sl_slice (ub L3)) (by omega) hm.2
      rw [← hL4] at p4
      have q4 := fun g => pureNew (cc := cx.at 44) (h := g) cb14 (by simp [md]) p4 rfl
      have fin : L4 = E ++ encVs (vs.take (k + 1)) := by rw [hnext, hL4, hL3, hL2, hL1, hL]; simp [encV]
      have w1 : ¬ (1 = h.next) := by omega
      have w2 : ¬ (h.next = 1) := by omega
      clear hL1 hL2 hL3 hL4 n1 n2 n3 hb hev hle hnext hL hx p1 p4
      simp -implicitDefEqProofs (disch := omega) [e3, e4, e47, e48, e49, hget, hk', q1, q2, q3, q4, fin, o1, w1, w2, nx, push_set, (sl_slice (ub L)).cells1, (sl_slice (ub L1)).cells1, (sl_slice (ub L3)).cells1, (sl_slice (ub (E ++ encVs (vs.take (k + 1))))).cells1, parts_none (sl_slice (ub L)).cells1, parts_none (sl_slice (ub L3)).cells1]
      omega
    · obtain rfl : k = vs.length := by omega
      rw [List.take_length] at hL
      simp -implicitDefEqProofs (disch := omega) [o1, nx, e3, e4, e47, e48, e49, hL])
  exact ⟨st', hLp, h⟩
theorem s44 (j : Job) {vs : List (ByteArray × Int × Int × ByteArray)} (hv : Slice j.vars (vs.map varT)) (hb : bulkOK vs) (hn : j.node.size + (encVs vs).length ≤ 1300000) :
    ∃ h', call cx prim 44 [.t j.t] .empty = some (.t (.slice (ub (encJ j vs))), h') := by
  rw [call_run rfl Try.func44 ok44 nd44 rfl (Nat.le_of_ble_eq_true rfl) rfl rfl]
  have hsz : j.node.data.toList.length = j.node.size := by simp
  have hlx := fun hh => hv.len (P := Try.prog) (t := 29) tk29 hh
  rw [List.length_map] at hlx
  obtain ⟨E1, hE1⟩ : ∃ E, E = be8 j.id := ⟨_, rfl⟩
  obtain ⟨E2, hE2⟩ : ∃ E, E = E1 ++ be8 j.inst := ⟨_, rfl⟩
  obtain ⟨E3, hE3⟩ : ∃ E, E = E2 ++ be8 j.node.size ++ j.node.data.toList := ⟨_, rfl⟩
  obtain ⟨E4, hE4⟩ : ∃ E, E = E3 ++ [if j.undo then 1 else 0] := ⟨_, rfl⟩
  have l1 : E1.length = 8 := by rw [hE1, bek_len]
  have l2 : E2.length = 16 := by rw [hE2, List.length_append, bek_len, l1]
  have l3 : E3.length = 24 + j.node.size := by rw [hE3, List.length_append, List.length_append, bek_len, l2, hsz]
  have g0 : H := (H.empty.push (.row 31 9 [.t j.t])).push (bufO .nilSlice)
  have q1 := c63 (h := (H.empty.push (.row 31 9 [.t j.t])).push (bufO .nilSlice)) (bs := []) j.id (by simp) .nil (by simp)
  rw [List.nil_append, ← hE1] at q1
  have q2 := c63 (h := (H.empty.push (.row 31 9 [.t j.t])).push (bufO (sl (ub E1)))) (bs := E1) j.inst (by simp) (sl_slice _) (by omega)
  rw [← hE2] at q2
  obtain ⟨_, p14⟩ := s14 j.node (sl_slice (ub E2)) (by omega) (by omega)
  rw [← hE3] at p14
  have q14 := fun g => pureNew (cc := cx.at 44) (h := g) cb14 (by simp [md]) p14 rfl
  obtain ⟨_, p15⟩ := s15 j.undo (sl_slice (ub E3)) (by omega)
  rw [← hE4] at p15
  have q15 := fun g => pureNew (cc := cx.at 44) (h := g) cb15 (by simp [md]) p15 rfl
  have e1 : ((H.empty.push (.row 31 9 [.t j.t])).push (bufO .nilSlice)).set 1 (bufO (sl (ub E1))) = (H.empty.push (.row 31 9 [.t j.t])).push (bufO (sl (ub E1))) := push_set
  have e2 : ((H.empty.push (.row 31 9 [.t j.t])).push (bufO (sl (ub E1)))).set 1 (bufO (sl (ub E2))) = (H.empty.push (.row 31 9 [.t j.t])).push (bufO (sl (ub E2))) := push_set
  rw [e1] at q1
  rw [e2] at q2
  clear e1 e2
  have hns : be8s [j.state, j.left, j.due, j.till, (vs.length : Int)] = be8 j.state ++ be8 j.left ++ be8 j.due ++ be8 j.till ++ be8 vs.length := by simp [be8s]
  have hfin : (E4 ++ be8s [j.state, j.left, j.due, j.till, (vs.length : Int)]) ++ encVs vs = encJ j vs := by rw [hns, hE4, hE3, hE2, hE1, encJ]; simp
  have l4 : E4.length = 25 + j.node.size := by rw [hE4, List.length_append, l3]; simp; omega
  have l5 : (E4 ++ be8s [j.state, j.left, j.due, j.till, (vs.length : Int)]).length = 65 + j.node.size := by rw [hns]; simp [bek_len, l4]; omega
  clear hE1 hE2 hE3 hE4 hns
  simp -implicitDefEqProofs (disch := omega) [litSliceD, hv.cells1, hlx, q1, q2, q14, q15, (sl_slice (ub E2)).cells1, (sl_slice (ub E3)).cells1, (sl_slice (ub E4)).cells1, parts_none (sl_slice (ub E2)).cells1]
  generalize hL : loopω (LB cx prim 44 Try.f44 0) _ = R
  obtain ⟨⟨nn, env, h⟩, hL2, rfl, o0, o1, nx, e1, e3, e4⟩ := loop_at hL (loop44a (ns := [j.state, j.left, j.due, j.till, (vs.length : Int)]) (E := E4) (x := j.t) (by simp; omega) _ rfl ⟨_, by simp, rfl⟩ (by simp) (by simp) (by simp) (by simp) (by simp) (by simp) (by simp) (by simp))
  subst hL2
  simp only at o0 o1 nx e1 e3 e4
  clear hL q1 q2 q14 q15 p14 p15
  simp -implicitDefEqProofs (disch := omega) [o0, e1, e3, e4, hv.cells1, hlx]
  generalize hL : loopω (LB cx prim 44 Try.f44 2) _ = R
  obtain ⟨⟨nn, env', h'⟩, hL2, rfl, o1, e3⟩ := loop_at hL (loop44b hb.1 hv (E := E4 ++ be8s [j.state, j.left, j.due, j.till, (vs.length : Int)]) (by omega) hb.2.2 _ rfl o1 nx (by simp [e3]) (by simp [e4]) (by simp) (by simp) (by simp))
  subst hL2
  simp only at o1 e3
  rw [hfin] at o1
  have hne : ub (encJ j vs) ≠ [] := fun e => by
    have := congrArg List.length e
    rw [ub_len, ← hfin, List.length_append, l5] at this
    simp at this
  have hsl : sl (ub (encJ j vs)) = .slice (ub (encJ j vs)) := sl_cons hne
  rw [hsl] at o1
  simp -implicitDefEqProofs (disch := omega) [o1, e3]
theorem c44 {c : FuncId} (j : Job) {vs : List (ByteArray × Int × Int × ByteArray)} (hv : Slice j.vars (vs.map varT)) (hb : bulkOK vs) (hn : j.node.size + (encVs vs).length ≤ 1300000) (h : H) (hm : md c 44 = .pure) :
    callD (cx.at c) (call cx prim) 44 [.t j.t] h = some (.t (.slice (ub (encJ j vs))), h) := by
  obtain ⟨h', q⟩ := s44 j hv hb hn
  exact pureT (ts := [j.t]) cb44 hm q rfl rfl
end Go.Proofs.Ytccajagfgdchlaa
