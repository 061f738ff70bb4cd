import Derived.Test.YtccajagfgdchlaaR5
set_option linter.unusedSimpArgs false
set_option linter.unusedVariables false
namespace Go.Proofs.Ytccajagfgdchlaa
open Vai
set_option maxHeartbeats 0
/-- Bytes, and room behind them. -/
abbrev roomL (l : List UInt8) : List UInt8 := l ++ List.replicate 64 0
theorem room_len (l : List UInt8) : (roomL l).length = l.length + 64 := by simp [roomL]
theorem copy_room {h : H} {r : Nat} {x : D} {l : List UInt8} (ho : h.objs r = some (.row 5 1 (List.replicate (l.length + 64) (.t (.int .u8 0))))) (hx : sourceD h x = some ((ub l).map .t)) :
    copyD Try.prog h 22 (.row r 0 (l.length + 64) (l.length + 64)) x = some (.t (.int .i64 l.length), h.set r (.row 5 1 ((ub (roomL l)).map .t))) := by
  have hm : h.mays r (((ub l).map D.t).take l.length) = true := by
    rw [List.take_of_length_le (by simp [ub])]
    exact mays_trees _ _ _
  have hc : ((ub l).map D.t).all (fun d => d.cells.length == 1) = true := by
    have := ub_cells l
    simp only [List.all_eq_true, List.mem_map] at this ⊢
    rintro _ ⟨y, hy, rfl⟩
    have := this y hy
    simpa [D.cells] using this
  have hmin : min ((ub l).map D.t).length (l.length + 64) = l.length := by simp [ub]
  simp only [copyD, tk22, sz5, hx, hc, H.els, ho, hmin, hm, List.length_replicate, Nat.zero_add, Nat.le_refl, Nat.lt_add_one, and_self, if_true]
  congr 4
  have : ((ub l).map D.t).take l.length = (ub l).map .t := List.take_of_length_le (by simp [ub])
  have h2 : ∀ ys : List D, ys.length = l.length → ys.take l.length = ys := fun ys e => List.take_of_length_le (by omega)
  simp [splice, ub, roomL, h2]
/-- The bytes that the reader was made of change. -/
theorem loop5a {n : Nat} (hn : n ≤ 4000000) (st : St) (sn : st.n = 104) {o1 o2 : Option AObj} (oo : ∃ m : List UInt8, m.length = n ∧ st.h.objs 0 = some (.row 5 1 ((ub m).map .t))) (a1 : st.h.objs 1 = o1) (a2 : st.h.objs 2 = o2) (an : st.h.next = 3)
    {d0 d1 d6 d7 d8 d9 d10 : D} (e0 : st.env 0 = d0) (e1 : st.env 1 = d1) (e5' : st.env 5 = .row 0 0 n n) (e6 : st.env 6 = d6) (e7 : st.env 7 = d7) (e8 : st.env 8 = d8) (e9 : st.env 9 = d9) (e10 : st.env 10 = d10) (e11' : st.env 11 = .t (.int .i64 0)) :
    ∃ st', loopω (LB cx prim 5 Try.f5 0) st = some (.exit 0, st') ∧ st'.n = 104 ∧ st'.h.objs 1 = o1 ∧ st'.h.objs 2 = o2 ∧ st'.h.next = 3 ∧ st'.env 0 = d0 ∧ st'.env 1 = d1 ∧ st'.env 6 = d6 ∧ st'.env 7 = d7 ∧ st'.env 8 = d8 ∧ st'.env 9 = d9 ∧ st'.env 10 = d10 := by
  obtain ⟨x', st', hLp, rfl, h⟩ := loop_up (f := LB cx prim 5 Try.f5 0) (st := st) n
    (fun k st => st.n = 104 ∧ (∃ m : List UInt8, m.length = n ∧ st.h.objs 0 = some (.row 5 1 ((ub m).map .t))) ∧ (st.h.objs 1 = o1 ∧ st.h.objs 2 = o2 ∧ st.h.next = 3) ∧ (st.env 0 = d0 ∧ st.env 1 = d1 ∧ st.env 6 = d6 ∧ st.env 7 = d7 ∧ st.env 8 = d8 ∧ st.env 9 = d9 ∧ st.env 10 = d10) ∧ st.env 5 = .row 0 0 n n ∧ st.env 11 = .t (.int .i64 k))
    (fun x' st => x' = .exit 0 ∧ st.n = 104 ∧ st.h.objs 1 = o1 ∧ st.h.objs 2 = o2 ∧ st.h.next = 3 ∧ st.env 0 = d0 ∧ st.env 1 = d1 ∧ st.env 6 = d6 ∧ st.env 7 = d7 ∧ st.env 8 = d8 ∧ st.env 9 = d9 ∧ st.env 10 = d10)
    ⟨sn, oo, ⟨a1, a2, an⟩, ⟨e0, e1, e6, e7, e8, e9, e10⟩, e5', e11'⟩ (by
    rintro k ⟨nn, env, h⟩ hk ⟨rfl, ⟨m, hm, o0⟩, ⟨a1, a2, an⟩, ⟨e0, e1, e6, e7, e8, e9, e10⟩, e5, e11⟩
    simp only at o0 a1 a2 an e0 e1 e5 e6 e7 e8 e9 e10 e11
    rw [LB_run nd5 rfl]
    have hum : (ub m).length = n := by simp [ub, hm]
    by_cases hk' : k < n
    · obtain ⟨c, hc⟩ : ∃ c : UInt8, m[k]'(by omega) = c := ⟨_, rfl⟩
      have hge : (ub m)[k]'(by omega) = .int .u8 c.toNat := by simp [ub, hc]
      have hset : (ub m).set k (.int .u8 (u8 (c.toNat + 1)).toNat) = ub (m.set k (u8 (c.toNat + 1))) := by simp [ub, List.map_set]
      simp -implicitDefEqProofs (disch := omega) [e5, e11, o0, hum, hk', hge, wrap_u8_u8, a1, a2, an, e0, e1, e6, e7, e8, e9, e10, hm]
      refine ⟨m.set k (u8 (c.toNat + 1)), by simp [hm], ?_⟩
      rw [← hset, List.map_set]
      rfl
    · clear e5' e11' oo
      obtain rfl : k = n := by omega
      simp -implicitDefEqProofs (disch := omega) [e5, e11, o0, hum, a1, a2, an, e0, e1, e6, e7, e8, e9, e10, hm])
  exact ⟨st', hLp, h⟩
/-- Nothing stands in the room. -/
theorem loop5b {l : List UInt8} (hl : l.length ≤ 4000000) {r : Nat} (st : St) (sn : st.n = 104) {h0 : H} (hh : st.h = h0) (ho : h0.objs r = some (.row 5 1 ((ub (roomL l)).map .t)))
    {d0 d1 d7 d8 d9 d10 d12 : D} (e0 : st.env 0 = d0) (e1 : st.env 1 = d1) (e6' : st.env 6 = .row r 0 (l.length + 64) (l.length + 64)) (e7 : st.env 7 = d7) (e8 : st.env 8 = d8) (e9 : st.env 9 = d9) (e10 : st.env 10 = d10) (e12 : st.env 12 = d12) (e13' : st.env 13 = .t (.int .i64 l.length)) :
    ∃ st', loopω (LB cx prim 5 Try.f5 2) st = some (.exit 2, st') ∧ st'.n = 104 ∧ st'.h = h0 ∧ st'.env 0 = d0 ∧ st'.env 1 = d1 ∧ st'.env 7 = d7 ∧ st'.env 8 = d8 ∧ st'.env 9 = d9 ∧ st'.env 10 = d10 ∧ st'.env 12 = d12 := by
  obtain ⟨x', st', hLp, rfl, h⟩ := loop_up (f := LB cx prim 5 Try.f5 2) (st := st) 64
    (fun k st => st.n = 104 ∧ st.h = h0 ∧ (st.env 0 = d0 ∧ st.env 1 = d1 ∧ st.env 7 = d7 ∧ st.env 8 = d8 ∧ st.env 9 = d9 ∧ st.env 10 = d10 ∧ st.env 12 = d12) ∧ st.env 6 = .row r 0 (l.length + 64) (l.length + 64) ∧ ∃ j : Nat, j = l.length + k ∧ st.env 13 = .t (.int .i64 j))
    (fun x' st => x' = .exit 2 ∧ st.n = 104 ∧ st.h = h0 ∧ st.env 0 = d0 ∧ st.env 1 = d1 ∧ st.env 7 = d7 ∧ st.env 8 = d8 ∧ st.env 9 = d9 ∧ st.env 10 = d10 ∧ st.env 12 = d12)
    ⟨sn, hh, ⟨e0, e1, e7, e8, e9, e10, e12⟩, e6', l.length, rfl, e13'⟩ (by
    rintro k ⟨nn, env, h⟩ hk ⟨rfl, rfl, ⟨e0, e1, e7, e8, e9, e10, e12⟩, e6, j, hj, e13⟩
    simp only at ho e0 e1 e6 e7 e8 e9 e10 e12 e13
    rw [LB_run nd5 rfl]
    have hum : (ub (roomL l)).length = l.length + 64 := by simp [ub]
    by_cases hk' : k < 64
    · have hj' : j < l.length + 64 := by omega
      have hge : (ub (roomL l))[j]'(by omega) = .int .u8 0 := by
        have h1 : (roomL l)[j]'(by rw [room_len]; omega) = 0 := by
          rw [List.getElem_append_right (by omega)]
          exact List.getElem_replicate _
        simp only [ub, List.getElem_map, h1]
        rfl
      simp -implicitDefEqProofs (disch := omega) [e6, e13, ho, hum, hj', hge, e0, e1, e7, e8, e9, e10, e12]
      omega
    · have hj' : ¬ j < l.length + 64 := by omega
      simp -implicitDefEqProofs (disch := omega) [e6, e13, ho, hum, hj', e0, e1, e7, e8, e9, e10, e12])
  exact ⟨st', hLp, h⟩
theorem snap_room {h : H} {r : Nat} {l : List UInt8} (ho : h.objs r = some (.row 5 1 ((ub (roomL l)).map .t))) : snap h (.row r 0 l.length (l.length + 64)) = some (.slice (ub l)) := by
  have h1 : h.els r (l.length + 64) = some (5, 1, (ub (roomL l)).map .t) := by simp [H.els, ho, ub]
  have h2 : ((((ub (roomL l)).map D.t).drop 0).take l.length) = (ub l).map .t := by
    rw [List.drop_zero, ub_append, List.map_append, List.take_left' (by simp [ub])]
  have h3 : 0 + l.length ≤ ((ub (roomL l)).map D.t).length := by simp [ub]
  simp only [snap_def, snapF_row, h1, h2, h3, if_true, allM_map_t, Option.map_some]
/-- What is known of the loop that changes the bytes. -/
def Chg (dm : D) (hm : H) : Prop := ∀ (st : St) (A B : AObj) (d0 d1 d6 d7 d8 d9 d10 : D), st.n = 104 → st.env 5 = dm → st.env 11 = .t (.int .i64 0) → st.h = (hm.push A).push B →
    st.env 0 = d0 → st.env 1 = d1 → st.env 6 = d6 → st.env 7 = d7 → st.env 8 = d8 → st.env 9 = d9 → st.env 10 = d10 →
    ∃ st', loopω (LB cx prim 5 Try.f5 0) st = some (.exit 0, st') ∧ st'.n = 104 ∧ st'.h.objs hm.next = some A ∧ st'.h.objs (hm.next + 1) = some B ∧ st'.h.next = hm.next + 2 ∧ st'.env 0 = d0 ∧ st'.env 1 = d1 ∧ st'.env 6 = d6 ∧ st'.env 7 = d7 ∧ st'.env 8 = d8 ∧ st'.env 9 = d9 ∧ st'.env 10 = d10
theorem make_room {h : H} {n : Nat} (hn : n ≤ 4000000) : makeSliceD Try.prog h 22 (.t (.int .i64 ((n : Int) + 64))) (.t (.int .i64 ((n : Int) + 64))) = some (.row h.next 0 (n + 64) (n + 64), h.push (.row 5 1 (List.replicate (n + 64) (.t (.int .u8 0))))) := by
  have e : ((n : Int) + 64).toNat = n + 64 := by omega
  have z : (T.int .u8 0).cells.length = 1 := rfl
  simp only [makeSliceD, tk22, sz5, byt5, zero5, e, z]
  rw [if_pos ⟨trivial, by omega, by omega, by omega, by omega, by omega⟩]
theorem slice_room {h : H} {r : Nat} {l : List UInt8} (ho : h.objs r = some (.row 5 1 ((ub (roomL l)).map .t))) : sliceD Try.prog h 22 (.row r 0 (l.length + 64) (l.length + 64)) none (some (.t (.int .i64 l.length))) none = some (.row r 0 l.length (l.length + 64)) := by
  have h1 : h.els r (l.length + 64) = some (5, 1, (ub (roomL l)).map .t) := by simp [H.els, ho, ub]
  have e : ((l.length : Int)).toNat = l.length := by omega
  simp only [sliceD, boundD, tk22, h1, sz5, Option.getD, e]
  rw [if_pos ⟨trivial, by omega, by omega, by omega⟩]
  simp
theorem law5c {b : T} {l : List UInt8} (n : Int) (hb : Slice b (ub l)) (hl : l.length ≤ 1500000) {dm : D} {hm : H} (q1 : appendD Try.prog .empty 22 (.t .nilSlice) (.t b) = some (dm, hm)) (hc : dm.cells = [dm]) (hsn : ∀ o, snap (hm.push o) dm = some (sl (ub l))) (hchg : Chg dm hm) : ∃ h', call cx prim 5 [.t b, .t (.int .i64 n)] .empty = some (.t (.bool true), h') := by
  rw [call_run rfl Try.func5 ok5 nd5 rfl (Nat.le_of_ble_eq_true rfl) rfl rfl]
  have hlb := fun hh => hb.len (P := Try.prog) (t := 22) tk22 hh
  rw [ub_len] at hlb
  have q2 := make_room (h := hm) (n := l.length) (by omega)
  have q3 := copy_room (h := hm.push (.row 5 1 (List.replicate (l.length + 64) (.t (.int .u8 0))))) (r := hm.next) (x := .t b) (l := l) (by simp [H.push, upd]) (hb.source _)
  rw [push_set] at q3
  have q4 := hsn (.row 5 1 ((ub (roomL l)).map .t))
  have q5 := snap_room (h := hm.push (.row 5 1 ((ub (roomL l)).map .t))) (r := hm.next) (l := l) (by simp [H.push, upd])
  have q6 := slice_room (h := hm.push (.row 5 1 ((ub (roomL l)).map .t))) (r := hm.next) (l := l) (by simp [H.push, upd])
  have q25 := c25 (c := 5) q4 (sl_slice _) (by omega)
  obtain ⟨_, p13⟩ := s13 n (.mk (es := ub l)) (by omega)
  obtain ⟨_, p14⟩ := s14 ⟨#[122, 122]⟩ (.mk (es := ub l)) (by omega) (by decide)
  obtain ⟨_, p15⟩ := s15 true (.mk (es := ub l)) (by omega)
  have c13 := treeNew (cc := cx.at 5) (h := hm.push (.row 5 1 ((ub (roomL l)).map .t))) (args := [.row hm.next 0 l.length (l.length + 64), .t (.int .i64 n)]) (ts := [.slice (ub l), .int .i64 n]) cb13 rfl (by simp only [allM, q5, snap_t]) p13 (.inl (ub_flat _))
  have c14 := treeNew (cc := cx.at 5) (h := hm.push (.row 5 1 ((ub (roomL l)).map .t))) (args := [.row hm.next 0 l.length (l.length + 64), .t (.str ⟨#[122, 122]⟩)]) (ts := [.slice (ub l), .str ⟨#[122, 122]⟩]) cb14 rfl (by simp only [allM, q5, snap_t]) p14 (.inl (ub_flat _))
  have c15 := treeNew (cc := cx.at 5) (h := hm.push (.row 5 1 ((ub (roomL l)).map .t))) (args := [.row hm.next 0 l.length (l.length + 64), .t (.bool true)]) (ts := [.slice (ub l), .bool true]) cb15 rfl (by simp only [allM, q5, snap_t]) p15 (.inl (ub_flat _))
  simp -implicitDefEqProofs (disch := omega) [q1, hb.cells1, hlb, q2, q3, c13, c14, c15, q25, q6, md]
  generalize hL : loopω (LB cx prim 5 Try.f5 0) _ = L
  obtain ⟨⟨nn, env, h⟩, hL2, rfl, a1, a2, an, e0, e1, e6, e7, e8, e9, e10⟩ := loop_at hL (hchg _ _ _ _ _ _ _ _ _ _ rfl (by simp) (by simp) rfl rfl rfl rfl rfl rfl rfl rfl)
  subst hL2
  clear hL q2 q3 c13 c14 c15 q25 q4 q5 q6 p13 p14 p15 hchg hsn q1
  simp only at a1 a2 an e0 e1 e6 e7 e8 e9 e10
  simp at e0 e1 e6 e7 e8 e9 e10
  simp -implicitDefEqProofs (disch := omega) [e0, e1, e6, e7, e8, e9, e10, an, hb.cells1, hlb]
  generalize hL : loopω (LB cx prim 5 Try.f5 2) _ = L
  have b0 : (h.push (rdO 42 b (0 : Nat) false)).objs hm.next = some (.row 5 1 ((ub (roomL l)).map .t)) := by simp [H.push, upd, an, a1]
  have b1 : (h.push (rdO 42 b (0 : Nat) false)).objs (hm.next + 1) = some (rdO 87 (sl (ub l)) (0 : Nat) false) := by simp [H.push, upd, an, a2]
  have b2 : (h.push (rdO 42 b (0 : Nat) false)).objs (hm.next + 2) = some (rdO 42 b (0 : Nat) false) := by simp [H.push, upd, an]
  obtain ⟨⟨nn, env', h'⟩, hL2, rfl, rfl, e0, e1, e7, e8, e9, e10, e12⟩ := loop_at hL (loop5b (l := l) (r := hm.next) (by omega) _ rfl (h0 := h.push (rdO 42 b (0 : Nat) false)) rfl b0 (by simp [e0]; rfl) (by simp [e1]; rfl) (by simp [e6]) (by simp [e7]; rfl) (by simp [e8]; rfl) (by simp [e9]; rfl) (by simp [e10]; rfl) (by simp; rfl) (by simp))
  subst hL2
  clear hL
  simp only at e0 e1 e7 e8 e9 e10 e12
  clear a1 a2
  generalize h.push (rdO 42 b (0 : Nat) false) = g at b0 b1 b2
  have t26 := c26 (c := 5) b1 (sl_slice _) (by omega) (by omega)
  have t27 := c27 (c := 5) (h := g.set (hm.next + 1) (rdO 87 (sl (ub l)) (intR l 0 false).2.1 (intR l 0 false).2.2)) (id := hm.next + 2) (b := b) (p := 0) (bad := false) (l := l) (by simp [b2]) hb (by omega) (by omega)
  have t28 := c28 (c := 5) (h := (g.set (hm.next + 1) (rdO 87 (sl (ub l)) (intR l 0 false).2.1 (intR l 0 false).2.2)).set (hm.next + 2) (rdO 42 b (intR l 0 false).2.1 (intR l 0 false).2.2)) (id := hm.next + 1) (p := (intR l 0 false).2.1) (bad := (intR l 0 false).2.2) (by simp) (sl_slice (ub l)) (by omega) (intR_le (Nat.zero_le _))
  have t29 := c29 (c := 5) (h := (g.set (hm.next + 1) (rdO 87 (sl (ub l)) (intR l 0 false).2.1 (intR l 0 false).2.2)).set (hm.next + 2) (rdO 42 b (intR l 0 false).2.1 (intR l 0 false).2.2)) (id := hm.next + 2) (p := (intR l 0 false).2.1) (bad := (intR l 0 false).2.2) (by simp) hb (by omega) (intR_le (Nat.zero_le _))
  have d18 := fun h => pureNew (cc := cx.at 5) (h := h) cb18 (by simp [md]) (s18 n hb (by omega)) rfl
  have d19 := fun h => pureNew (cc := cx.at 5) (h := h) cb19 (by simp [md]) (s19 ⟨#[122, 122]⟩ hb (by omega) (by decide)) rfl
  have d20 := fun h => pureNew (cc := cx.at 5) (h := h) cb20 (by simp [md]) (s20 true hb (by omega)) rfl
  simp -implicitDefEqProofs (disch := omega) [e0, e1, e7, e8, e9, e10, e12, hb.cells1, t26, t27, t28, t29, d18, d19, d20, c16 (c := 5) _ (by simp [md]), c17 (c := 5) (sl_slice _) (sl_slice _) _ (by simp [md]), (sl_slice _).cells1, md]
theorem chg_nil : Chg (.t .nilSlice) .empty := by
  rintro ⟨nn, env, h⟩ A B d0 d1 d6 d7 d8 d9 d10 rfl e5 e11 rfl e0 e1 e6 e7 e8 e9 e10
  simp only at e0 e1 e5 e6 e7 e8 e9 e10 e11
  rw [loop_step, LB_run nd5 rfl]
  simp -implicitDefEqProofs (disch := omega) [e5, e11, e0, e1, e6, e7, e8, e9, e10]
theorem chg_row {l : List UInt8} (hl : l.length ≤ 4000000) : Chg (.row 0 0 l.length l.length) (H.empty.push (.row 5 1 ((ub l).map .t))) := by
  intro st A B d0 d1 d6 d7 d8 d9 d10 sn e5 e11 hh e0 e1 e6 e7 e8 e9 e10
  exact loop5a hl st sn ⟨l, rfl, by rw [hh]; simp [H.push, upd, H.empty]⟩ (by rw [hh]; simp [H.push, upd, H.empty]) (by rw [hh]; simp [H.push, upd, H.empty]) (by rw [hh]; rfl) e0 e1 e5 e6 e7 e8 e9 e10 e11
theorem law5 {b : T} {l : List UInt8} (n : Int) (hb : Slice b (ub l)) (hl : l.length ≤ 1500000) : ∃ h', call cx prim 5 [.t b, .t (.int .i64 n)] .empty = some (.t (.bool true), h') := by
  have q1 := append_nil (P := Try.prog) (h := .empty) (t := 22) (x := .t b) (ys := ub l) tk22 sz5 byt5 zero5 rfl (by decide) (hb.source _) (ub_cells l) (by simp [ub_len]; omega) (by simp [ub_len]; omega)
  by_cases he : l = []
  · subst he
    exact law5c n hb hl q1 rfl (fun o => rfl) chg_nil
  · have hne : ub l ≠ [] := by simp [ub, he]
    rw [nrow_cons hne, ub_len] at q1
    refine law5c n hb hl q1 rfl (fun o => ?_) (chg_row (by omega))
    rw [sl_cons hne]
    have h1 : H.els ((H.empty.push (.row 5 1 ((ub l).map .t))).push o) 0 l.length = some (5, 1, (ub l).map .t) := by simp [H.els, H.push, upd, H.empty, ub]
    have h2 : ((((ub l).map D.t).drop 0).take l.length) = (ub l).map .t := by
      rw [List.drop_zero, List.take_of_length_le (by simp [ub])]
    have h3 : 0 + l.length ≤ ((ub l).map D.t).length := by simp [ub]
    have h0 : H.empty.next = 0 := rfl
    simp only [h0, snap_def, snapF_row, h1, h2, h3, if_true, allM_map_t, Option.map_some]
end Go.Proofs.Ytccajagfgdchlaa
