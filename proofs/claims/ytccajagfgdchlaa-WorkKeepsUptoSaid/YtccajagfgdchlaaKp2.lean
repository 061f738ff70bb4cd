import Derived.Test.YtccajagfgdchlaaKp1
import Derived.Test.YtccajagfgdchlaaS6
set_option linter.unusedSimpArgs false
set_option linter.unusedVariables false
namespace Go.Proofs.Ytccajagfgdchlaa.Kp
open Vai
set_option maxHeartbeats 0
theorem append_at {h : H} {id n : Nat} {l ys : List UInt8} {x : D} (ho : h.objs id = some (.row 5 1 ((ub l).map .t))) (hn : n = l.length) (hsrc : sourceD h x = some ((ub ys).map .t)) (hl : l.length + ys.length ≤ 1000000000) :
    appendD Try.prog h 22 (.row id 0 n n) x = some (.row id 0 (l ++ ys).length (l ++ ys).length, h.set id (.row 5 1 ((ub (l ++ ys)).map .t))) := by
  subst hn
  have hc : ((ub ys).map D.t).all (fun d => d.cells.length == 1) = true := by
    have := ub_cells ys
    simp only [List.all_eq_true, List.mem_map] at this ⊢
    rintro _ ⟨y, hy, rfl⟩
    have := this y hy
    simpa [D.cells] using this
  have he : h.els id l.length = some (5, 1, (ub l).map .t) := by simp [H.els, ho, ub]
  have hm : h.mays id ((ub ys).map D.t) = true := mays_trees _ _ _
  have hz : (T.int .u8 0).cells.length = 1 := rfl
  unfold appendD
  simp only [tk22, sz5, byt5, zero5, hsrc, hc, hz, he, hm, List.length_map, ub_len, List.length_append]
  simp only [and_self, and_true, true_and, if_true, Nat.le_refl, Nat.lt_add_one, Nat.lt_irrefl, Nat.zero_lt_one]
  rw [if_pos ⟨by omega, by omega⟩]
  simp [ub]
theorem s50 (n : Int) : call cx prim 50 [.t (.int .i64 n)] .empty = some (nrow 5 1 (ub (be8 n)) .empty) := by
  rw [call_run rfl Try.func50 ok50 nd50 rfl (Nat.le_of_ble_eq_true rfl) rfl rfl]
  simp -implicitDefEqProofs
  generalize hL : loopω _ _ = L
  obtain ⟨x, st', rfl, rfl, env, rfl, h2⟩ := loop_uses hL 8
    (fun i st => ∃ env, st = ⟨21, env, (nrow 5 1 (ub (bek n i)) .empty).2⟩ ∧ env 0 = .t (.int .i64 n) ∧ env 4 = .t (.int .i64 i) ∧ env 3 = (nrow 5 1 (ub (bek n i)) .empty).1)
    (fun x st => x = .exit 0 ∧ ∃ env, st = ⟨21, env, (nrow 5 1 (ub (bek n 8)) .empty).2⟩ ∧ env 3 = (nrow 5 1 (ub (bek n 8)) .empty).1)
    ⟨_, rfl, by simp, by simp, by simp [bek, ub, nrow]⟩ (by
    rintro i _ hi ⟨env, rfl, e0, e4, e3⟩
    rw [LB_run nd50 rfl]
    by_cases hi' : i < 8
    · have w6 : IntKind.u8.wrap ((IntKind.u64.wrap n).fdiv (2 ^ (56 - 8 * (i : Int)).toNat)) = (dig n i).toNat := wrap_u8_u8 _
      have ha := append_new (P := Try.prog) (h := .empty) (xs := ub (bek n i)) (ys := [.int .u8 (dig n i).toNat]) (x := .t (.slice [.int .u8 (dig n i).toNat])) tk22 sz5 byt5 zero5 rfl (by decide) rfl rfl (by simp [bek, ub]; omega) (by simp [bek, ub]; omega)
      rw [show ub (bek n i) ++ [.int .u8 ((dig n i).toNat : Int)] = ub (bek n (i + 1)) by rw [bek_succ, ub_append]; rfl] at ha
      simp -implicitDefEqProofs (disch := omega) [litSliceD, e0, e4, e3, hi', w6, ha]
    · obtain rfl : i = 8 := by omega
      simp -implicitDefEqProofs [e4]
      exact e3)
  simp -implicitDefEqProofs [h2]
theorem c50 {c : FuncId} (n : Int) (h : H) (hm : md c 50 = .pure) : callD (cx.at c) (call cx prim) 50 [.t (.int .i64 n)] h = some (.t (sl (ub (be8 n))), h) := pureNew cb50 hm (s50 n) rfl

theorem s18 {b : T} {bs : List UInt8} (n : Int) (hb : Slice b (ub bs)) (hlen : bs.length ≤ 4000000) : call cx prim 18 [.t b, .t (.int .i64 n)] .empty = some (nrow 5 1 (ub (bs ++ be8 n)) .empty) := by
  rw [call_run rfl Try.func18 ok18 nd18 rfl (Nat.le_of_ble_eq_true rfl) rfl rfl]
  have h1 := append_nil (P := Try.prog) (h := .empty) (t := 22) tk22 sz5 byt5 zero5 rfl (by decide) (hb.source _) (ub_cells bs) (by simp [ub_len]; omega) (by simp [ub_len]; omega)
  have h2 := append_new (P := Try.prog) (h := .empty) (t := 22) (xs := ub bs) tk22 sz5 byt5 zero5 rfl (by decide) ((sl_slice _).source _) (ub_cells (be8 n)) (by simp [ub_len, bek_len]; omega) (by simp [ub_len, bek_len]; omega)
  rw [← ub_append] at h2
  simp -implicitDefEqProofs [c50 n _ (c := 18) rfl, h1, h2]
theorem s19 {b : T} {bs : List UInt8} (s : ByteArray) (hb : Slice b (ub bs)) (hlen : bs.length ≤ 2000000) (hs : s.size ≤ 2000000) : call cx prim 19 [.t b, .t (.str s)] .empty = some (nrow 5 1 (ub (bs ++ be8 s.size ++ s.data.toList)) .empty) := by
  rw [call_run rfl Try.func19 ok19 nd19 rfl (Nat.le_of_ble_eq_true rfl) rfl rfl]
  have hsz : s.data.toList.length = s.size := by simp
  have h1 := fun h => ownNew (cc := cx.at 19) (h := h) cb18 rfl (s18 s.size hb (by omega)) rfl
  have h2 := append_new (P := Try.prog) (h := .empty) (t := 22) (x := .t (.str s)) (xs := ub (bs ++ be8 s.size)) (ys := ub s.data.toList) tk22 sz5 byt5 zero5 rfl (by decide) rfl (ub_cells _) (by simp [ub_len, bek_len]; omega) (by simp [ub_len, bek_len]; omega)
  rw [← ub_append] at h2
  simp -implicitDefEqProofs [lenD, h1, h2]
theorem s20 {b : T} {bs : List UInt8} (x : Bool) (hb : Slice b (ub bs)) (hlen : bs.length ≤ 2000000) : call cx prim 20 [.t b, .t (.bool x)] .empty = some (nrow 5 1 (ub (bs ++ [if x then 1 else 0])) .empty) := by
  rw [call_run rfl Try.func20 ok20 nd20 rfl (Nat.le_of_ble_eq_true rfl) rfl rfl]
  have h1 := append_nil (P := Try.prog) (h := .empty) (t := 22) tk22 sz5 byt5 zero5 rfl (by decide) (hb.source _) (ub_cells bs) (by simp [ub_len]; omega) (by simp [ub_len]; omega)
  have h2 := fun c : UInt8 => append_new (P := Try.prog) (h := .empty) (t := 22) (x := .t (.slice (ub [c]))) (xs := ub bs) (ys := ub [c]) tk22 sz5 byt5 zero5 rfl (by decide) rfl (ub_cells _) (by simp [ub_len]; omega) (by simp [ub_len]; omega)
  cases x with
  | true =>
    have := h2 1
    rw [← ub_append] at this
    simp [ub] at this h1
    simp -implicitDefEqProofs [h1, litSliceD, ub, this]
  | false =>
    have := h2 0
    rw [← ub_append] at this
    simp [ub] at this h1
    simp -implicitDefEqProofs [h1, litSliceD, ub, this]
abbrev varT (v : ByteArray × Int × Int × ByteArray) : T := .agg [.str v.1, .int .i64 v.2.1, .int .i64 v.2.2.1, .str v.2.2.2]
def encV (v : ByteArray × Int × Int × ByteArray) : List UInt8 := be8 v.1.size ++ v.1.data.toList ++ be8 v.2.1 ++ be8 v.2.2.1 ++ (be8 v.2.2.2.size ++ v.2.2.2.data.toList)
def encVs (l : List (ByteArray × Int × Int × ByteArray)) : List UInt8 := (l.map encV).flatten
theorem k76 {h : H} {id n : Nat} {l : List UInt8} (m : Int) (ho : h.objs id = some (.row 5 1 ((ub l).map .t))) (hn : n = l.length) (hl : l.length ≤ 100000000) :
    call cx prim 76 [.row id 0 n n, .t (.int .i64 m)] h = some (.row id 0 (l ++ be8 m).length (l ++ be8 m).length, h.set id (.row 5 1 ((ub (l ++ be8 m)).map .t))) := by
  rw [call_run rfl Try.func76 ok76 nd76 rfl (Nat.le_of_ble_eq_true rfl) rfl rfl]
  have q := append_at (x := .t (sl (ub (be8 m)))) ho hn ((sl_slice _).source _) (by rw [bek_len]; omega)
  simp -implicitDefEqProofs [c50 (c := 76) m _ rfl, q]
theorem k77 {h : H} {id n : Nat} {l : List UInt8} (s : ByteArray) (ho : h.objs id = some (.row 5 1 ((ub l).map .t))) (hn : n = l.length) (hl : l.length ≤ 100000000) (hs : s.size ≤ 2000000) :
    call cx prim 77 [.row id 0 n n, .t (.str s)] h = some (.row id 0 (l ++ (be8 s.size ++ s.data.toList)).length (l ++ (be8 s.size ++ s.data.toList)).length, h.set id (.row 5 1 ((ub (l ++ (be8 s.size ++ s.data.toList))).map .t))) := by
  rw [call_run rfl Try.func77 ok77 nd77 rfl (Nat.le_of_ble_eq_true rfl) rfl rfl]
  have hsz : s.data.toList.length = s.size := by simp
  have q19 := fun h => pureNew (cc := cx.at 77) (h := h) cb19 rfl (s19 (b := .nilSlice) (bs := []) s Slice.nil (by simp) hs) rfl
  rw [List.nil_append] at q19
  have q := append_at (x := .t (sl (ub (be8 s.size ++ s.data.toList)))) ho hn ((sl_slice _).source _) (by rw [List.length_append, bek_len]; omega)
  simp -implicitDefEqProofs [q19, q]
theorem c76 {c : FuncId} {h : H} {id n : Nat} {l : List UInt8} (m : Int) (hm : md c 76 = .keep) (ho : h.objs id = some (.row 5 1 ((ub l).map .t))) (hn : n = l.length) (hl : l.length ≤ 100000000) :
    callD (cx.at c) (call cx prim) 76 [.row id 0 n n, .t (.int .i64 m)] h = some (.row id 0 (l ++ be8 m).length (l ++ be8 m).length, h.set id (.row 5 1 ((ub (l ++ be8 m)).map .t))) := keepT cb76 hm (k76 m ho hn hl)
theorem c77 {c : FuncId} {h : H} {id n : Nat} {l : List UInt8} (s : ByteArray) (hm : md c 77 = .keep) (ho : h.objs id = some (.row 5 1 ((ub l).map .t))) (hn : n = l.length) (hl : l.length ≤ 100000000) (hs : s.size ≤ 2000000) :
    callD (cx.at c) (call cx prim) 77 [.row id 0 n n, .t (.str s)] h = some (.row id 0 (l ++ (be8 s.size ++ s.data.toList)).length (l ++ (be8 s.size ++ s.data.toList)).length, h.set id (.row 5 1 ((ub (l ++ (be8 s.size ++ s.data.toList))).map .t))) := keepT cb77 hm (k77 s ho hn hl hs)
/-- One variable is laid behind. -/
theorem loop62 {h : H} {id : Nat} {B : List UInt8} {x : T} {vs : List (ByteArray × Int × Int × ByteArray)} (hx : Slice x (vs.map varT)) (hlen : vs.length ≤ 2000000) (hB : B.length + (encVs vs).length ≤ 90000000) (hstr : ∀ v ∈ vs, v.1.size ≤ 2000000 ∧ v.2.2.2.size ≤ 2000000)
    (st : St) (sn : st.n = 49) (sh : st.h = h.set id (.row 5 1 ((ub B).map .t))) (e0' : st.env 0 = .row id 0 B.length B.length) (e1' : st.env 1 = .t x) (e5' : st.env 5 = .t (.int .i64 0)) :
    ∃ st', loopω (LB cx prim 62 Try.f62 0) st = some (.exit 0, st') ∧ st'.n = 49 ∧ st'.h = h.set id (.row 5 1 ((ub (B ++ encVs vs)).map .t)) ∧ st'.env 0 = .row id 0 (B ++ encVs vs).length (B ++ encVs vs).length := by
  have hlx := fun hh => hx.len (P := Try.prog) (t := 29) tk29 hh
  rw [List.length_map] at hlx
  obtain ⟨x', st', hLp, rfl, h⟩ := loop_up (f := LB cx prim 62 Try.f62 0) (st := st) vs.length
    (fun k st => st.n = 49 ∧ (∃ L : List UInt8, L = B ++ encVs (vs.take k) ∧ st.h = h.set id (.row 5 1 ((ub L).map .t)) ∧ st.env 0 = .row id 0 L.length L.length) ∧ st.env 1 = .t x ∧ st.env 5 = .t (.int .i64 k))
    (fun x' st => x' = .exit 0 ∧ st.n = 49 ∧ st.h = h.set id (.row 5 1 ((ub (B ++ encVs vs)).map .t)) ∧ st.env 0 = .row id 0 (B ++ encVs vs).length (B ++ encVs vs).length)
    ⟨sn, ⟨B, by simp [encVs], sh, e0'⟩, e1', e5'⟩ (by
    rintro k ⟨nn, env, g⟩ hk ⟨rfl, ⟨L, hL, hg, e0⟩, e1, e5⟩
    simp only at hg e0 e1 e5
    subst hg
    rw [LB_run nd62 rfl]
    by_cases hk' : k < vs.length
    · obtain ⟨v, hv⟩ : ∃ v, vs[k]? = some v := ⟨vs[k], by simp [hk']⟩
      have hxe : x = .slice (vs.map varT) := hx.eq_of_ne (by intro e; have := congrArg List.length e; simp at this; subst this; simp at hk')
      subst hxe
      have hget : (vs.map varT)[k]? = some (varT v) := by simp [hv]
      have hm := hstr v (List.mem_of_getElem? hv)
      have hnext : encVs (vs.take (k + 1)) = encVs (vs.take k) ++ encV v := by
        rw [List.take_add_one, hv]
        simp [encVs]
      have hle : (encVs (vs.take (k + 1))).length ≤ (encVs vs).length := by
        have : encVs vs = encVs (vs.take (k + 1)) ++ encVs (vs.drop (k + 1)) := by
          simp only [encVs, ← List.flatten_append, ← List.map_append, List.take_append_drop]
        rw [this, List.length_append]
        omega
      have hb : L.length + (encV v).length ≤ 90000000 := by
        rw [hL, List.length_append]
        rw [hnext, List.length_append] at hle
        omega
      have hev : (encV v).length = 8 + v.1.data.toList.length + 8 + 8 + (8 + v.2.2.2.data.toList.length) := by simp only [encV, List.length_append, bek_len]
      obtain ⟨L1, hL1⟩ : ∃ L1, L1 = L ++ (be8 v.1.size ++ v.1.data.toList) := ⟨_, rfl⟩
      obtain ⟨L2, hL2⟩ : ∃ L2, L2 = L1 ++ be8 v.2.1 := ⟨_, rfl⟩
      obtain ⟨L3, hL3⟩ : ∃ L3, L3 = L2 ++ be8 v.2.2.1 := ⟨_, rfl⟩
      obtain ⟨L4, hL4⟩ : ∃ L4, L4 = L3 ++ (be8 v.2.2.2.size ++ v.2.2.2.data.toList) := ⟨_, rfl⟩
      have n1 : L1.length ≤ 90000000 := by rw [hL1]; simp only [List.length_append, bek_len]; omega
      have n2 : L2.length ≤ 90000000 := by rw [hL2, hL1]; simp only [List.length_append, bek_len]; omega
      have n3 : L3.length ≤ 90000000 := by rw [hL3, hL2, hL1]; simp only [List.length_append, bek_len]; omega
      have q1 := c77 (c := 62) (h := h.set id (.row 5 1 ((ub L).map .t))) (id := id) (l := L) v.1 rfl (by simp) rfl (by omega) hm.1
      have q2 := c76 (c := 62) (h := h.set id (.row 5 1 ((ub L1).map .t))) (id := id) (l := L1) v.2.1 rfl (by simp) rfl (by omega)
      have q3 := append_at (h := h.set id (.row 5 1 ((ub L2).map .t))) (id := id) (l := L2) (x := .t (sl (ub (be8 v.2.2.1)))) (by simp) rfl ((sl_slice _).source _) (by rw [bek_len]; omega)
      have q4 := c77 (c := 62) (h := h.set id (.row 5 1 ((ub L3).map .t))) (id := id) (l := L3) v.2.2.2 rfl (by simp) rfl (by omega) hm.2
      have fin : L4 = B ++ encVs (vs.take (k + 1)) := by rw [hnext, hL4, hL3, hL2, hL1, hL]; simp [encV]
      rw [← hL1] at q1
      rw [← hL2] at q2
      rw [← hL3] at q3
      rw [← hL4] at q4
      simp only [set_set] at q1 q2 q3 q4
      clear hL1 hL2 hL3 hL4 n1 n2 n3 hb hev hle hnext hL hx hlx
      simp -implicitDefEqProofs (disch := omega) [e0, e1, e5, hget, hk', q1, q2, q3, q4, c50 (c := 62) v.2.2.1 _ rfl, fin]
    · obtain rfl : k = vs.length := by omega
      rw [List.take_length] at hL
      simp -implicitDefEqProofs (disch := omega) [e0, e1, e5, hlx, hL])
  exact ⟨st', hLp, h⟩
def bulkOK (vs : List (ByteArray × Int × Int × ByteArray)) : Prop := vs.length ≤ 2000000 ∧ (encVs vs).length ≤ 60000000 ∧ ∀ v ∈ vs, v.1.size ≤ 2000000 ∧ v.2.2.2.size ≤ 2000000
theorem k62 {h : H} {id n : Nat} {l : List UInt8} {x : T} {vs : List (ByteArray × Int × Int × ByteArray)} (hx : Slice x (vs.map varT)) (hb : bulkOK vs) (ho : h.objs id = some (.row 5 1 ((ub l).map .t))) (hn : n = l.length) (hl : l.length ≤ 20000000) :
    call cx prim 62 [.row id 0 n n, .t x] h = some (.row id 0 (l ++ be8 vs.length ++ encVs vs).length (l ++ be8 vs.length ++ encVs vs).length, h.set id (.row 5 1 ((ub (l ++ be8 vs.length ++ encVs vs)).map .t))) := by
  rw [call_run rfl Try.func62 ok62 nd62 rfl (Nat.le_of_ble_eq_true rfl) rfl rfl]
  obtain ⟨b1, b2, b3⟩ := hb
  have hlx := fun hh => hx.len (P := Try.prog) (t := 29) tk29 hh
  rw [List.length_map] at hlx
  have q := c76 (c := 62) (h := h) (id := id) (n := n) (l := l) vs.length rfl ho hn (by omega)
  obtain ⟨B, hB⟩ : ∃ B, B = l ++ be8 vs.length := ⟨_, rfl⟩
  have hBl : B.length = l.length + 8 := by rw [hB, List.length_append, bek_len]
  rw [← hB] at q ⊢
  simp -implicitDefEqProofs (disch := omega) [hx.cells1, hlx, q]
  generalize hL : loopω (LB cx prim 62 Try.f62 0) _ = L
  obtain ⟨⟨nn, env, g⟩, hL2, rfl, rfl, e0⟩ := loop_at hL (loop62 (h := h) (id := id) (B := B) hx b1 (by omega) b3 _ rfl rfl (by simp) (by simp) (by simp))
  subst hL2
  simp only at e0
  simp -implicitDefEqProofs [e0]
theorem c62 {c : FuncId} {h : H} {id n : Nat} {l : List UInt8} {x : T} {vs : List (ByteArray × Int × Int × ByteArray)} (hm : md c 62 = .keep) (hx : Slice x (vs.map varT)) (hb : bulkOK vs) (ho : h.objs id = some (.row 5 1 ((ub l).map .t))) (hn : n = l.length) (hl : l.length ≤ 20000000) :
    callD (cx.at c) (call cx prim) 62 [.row id 0 n n, .t x] h = some (.row id 0 (l ++ be8 vs.length ++ encVs vs).length (l ++ be8 vs.length ++ encVs vs).length, h.set id (.row 5 1 ((ub (l ++ be8 vs.length ++ encVs vs)).map .t))) := keepT cb62 hm (k62 hx hb ho hn hl)
theorem snap_push {g : H} {E : List UInt8} (hne : E ≠ []) : snap (g.push (.row 5 1 ((ub E).map .t))) (.row g.next 0 E.length E.length) = some (sl (ub E)) := by
  have hne' : ub E ≠ [] := by simp [ub, hne]
  have := snap_new (h := g) (bt := 5) (s := 1) (xs := ub E)
  rw [nrow_cons hne', ub_len] at this
  exact this
theorem own18 {g : H} {d : D} {x : T} {E : List UInt8} (hd : snap g d = some x) (hx : Slice x (ub E)) (n : Int) (hE : E.length ≤ 4000000) : callD (cx.at 34) (call cx prim) 18 [d, .t (.int .i64 n)] g = some (.row g.next 0 (E ++ be8 n).length (E ++ be8 n).length, g.push (.row 5 1 ((ub (E ++ be8 n)).map .t))) := by
  have hne : ub (E ++ be8 n) ≠ [] := by
    intro e
    have := congrArg List.length e
    simp [ub, bek_len] at this
  have := ownNew' (cc := cx.at 34) (h := g) (args := [d, .t (.int .i64 n)]) (ts := [x, .int .i64 n]) cb18 rfl (by simp only [allM, hd, snap_t]) (s18 n hx hE) (.inl (ub_flat _))
  rw [nrow_cons hne, ub_len] at this
  exact this
theorem own19 {g : H} {d : D} {x : T} {E : List UInt8} (hd : snap g d = some x) (hx : Slice x (ub E)) (s : ByteArray) (hE : E.length ≤ 2000000) (hs : s.size ≤ 2000000) : callD (cx.at 34) (call cx prim) 19 [d, .t (.str s)] g = some (.row g.next 0 (E ++ be8 s.size ++ s.data.toList).length (E ++ be8 s.size ++ s.data.toList).length, g.push (.row 5 1 ((ub (E ++ be8 s.size ++ s.data.toList)).map .t))) := by
  have hne : ub (E ++ be8 s.size ++ s.data.toList) ≠ [] := by
    intro e
    have := congrArg List.length e
    simp [ub, bek_len] at this
  have := ownNew' (cc := cx.at 34) (h := g) (args := [d, .t (.str s)]) (ts := [x, .str s]) cb19 rfl (by simp only [allM, hd, snap_t]) (s19 s hx hE hs) (.inl (ub_flat _))
  rw [nrow_cons hne, ub_len] at this
  exact this
theorem own20 {g : H} {d : D} {x : T} {E : List UInt8} (hd : snap g d = some x) (hx : Slice x (ub E)) (s : Bool) (hE : E.length ≤ 2000000) : callD (cx.at 34) (call cx prim) 20 [d, .t (.bool s)] g = some (.row g.next 0 (E ++ [if s then 1 else 0]).length (E ++ [if s then 1 else 0]).length, g.push (.row 5 1 ((ub (E ++ [if s then 1 else 0])).map .t))) := by
  have hne : ub (E ++ [if s then 1 else 0]) ≠ [] := by
    intro e
    have := congrArg List.length e
    simp [ub] at this
  have := ownNew' (cc := cx.at 34) (h := g) (args := [d, .t (.bool s)]) (ts := [x, .bool s]) cb20 rfl (by simp only [allM, hd, snap_t]) (s20 s hx hE) (.inl (ub_flat _))
  rw [nrow_cons hne, ub_len] at this
  exact this
end Go.Proofs.Ytccajagfgdchlaa.Kp
