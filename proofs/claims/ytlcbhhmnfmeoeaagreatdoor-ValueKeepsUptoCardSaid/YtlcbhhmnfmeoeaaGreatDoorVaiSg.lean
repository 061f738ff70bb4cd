import Derived.Test.YtlcbhhmnfmeoeaaGreatDoorVaiSf
set_option linter.unusedSimpArgs false
set_option linter.unusedVariables false
set_option linter.unusedSectionVars false
namespace Go.Proofs.YtlcbhhmnfmeoeaaGreatDoor
open Vai
set_option maxHeartbeats 0
/-! texts in order -/
theorem bl_cmp : ∀ a b : List UInt8, (Lib.compareBytes a b < 0 ↔ Op.bytesLess a b = true) ∧ (Lib.compareBytes a b = 0 ↔ a = b)
  | [], [] => by simp [Lib.compareBytes, Op.bytesLess]
  | [], _ :: _ => by simp [Lib.compareBytes, Op.bytesLess]
  | _ :: _, [] => by simp [Lib.compareBytes, Op.bytesLess]
  | a :: x, b :: y => by
    obtain ⟨i1, i2⟩ := bl_cmp x y
    simp only [Lib.compareBytes, Op.bytesLess]
    rcases Nat.lt_trichotomy a.toNat b.toNat with h | h | h
    · have h0 : a < b := UInt8.lt_iff_toNat_lt.2 h
      have h2 : ¬ a = b := fun e => by subst e; omega
      simp [h0, h2]
    · have h0 : a = b := UInt8.toNat_inj.1 h
      subst h0
      have h1 : ¬ a < a := UInt8.lt_irrefl _
      simp [h1, i1, i2]
    · have h0 : b < a := UInt8.lt_iff_toNat_lt.2 h
      have h1 : ¬ a < b := fun e => absurd (UInt8.lt_iff_toNat_lt.1 e) (by omega)
      have h2 : ¬ a = b := fun e => by subst e; omega
      simp [h0, h1, h2]
theorem bl_trans : ∀ a b c : List UInt8, Op.bytesLess a b = true → Op.bytesLess b c = true → Op.bytesLess a c = true
  | _, [], _, h, _ => by cases h' : ‹List UInt8› <;> simp [Op.bytesLess] at h
  | _, _ :: _, [], _, h => by simp [Op.bytesLess] at h
  | [], _ :: _, _ :: _, _, _ => rfl
  | a :: x, b :: y, c :: z, h1, h2 => by
    have ih := bl_trans x y z
    simp only [Op.bytesLess, Bool.or_eq_true, decide_eq_true_eq, Bool.and_eq_true, beq_iff_eq] at h1 h2 ⊢
    rcases h1 with h1 | ⟨rfl, h1⟩
    · rcases h2 with h2 | ⟨rfl, h2⟩
      · left; rw [UInt8.lt_iff_toNat_lt] at *; omega
      · exact .inl h1
    · rcases h2 with h2 | ⟨rfl, h2⟩
      · exact .inl h2
      · exact .inr ⟨rfl, ih h1 h2⟩
theorem bl_irrefl : ∀ a : List UInt8, Op.bytesLess a a = false
  | [] => rfl
  | a :: x => by simp [Op.bytesLess, bl_irrefl x, UInt8.lt_irrefl]
theorem lessS_trans {a b c : ByteArray} (h1 : lessS a b = true) (h2 : lessS b c = true) : lessS a c = true := bl_trans _ _ _ h1 h2
theorem lessS_irrefl (a : ByteArray) : lessS a a = false := bl_irrefl _
theorem lessS_total (a b : ByteArray) : lessS a b = true ∨ a = b ∨ lessS b a = true := by
  have h := less_total a.toList b.toList
  unfold lessS
  cases h1 : Op.bytesLess a.toList b.toList with
  | true => exact .inl rfl
  | false =>
    rw [h1, Bool.false_or, str_eq] at h
    by_cases e : a = b
    · exact .inr (.inl e)
    · rw [decide_eq_false e] at h
      exact .inr (.inr (by simpa using h.symm))
def cmpS (a b : ByteArray) : Int := Lib.compareBytes a.data.toList b.data.toList
theorem cmpS_lt (a b : ByteArray) : cmpS a b < 0 ↔ lessS a b = true := by
  unfold cmpS lessS
  rw [ByteArray.toList_eq, ByteArray.toList_eq]
  exact (bl_cmp _ _).1
theorem cmpS_eq (a b : ByteArray) : cmpS a b = 0 ↔ a = b := by
  unfold cmpS
  rw [(bl_cmp _ _).2]
  exact ⟨fun h => by cases a; cases b; simp at h; simp [h], fun h => by rw [h]⟩

/-! variables that rise -/
def Asc (vs : List WV) : Prop := ∀ (i j : Nat) (u v : WV), i < j → vs[i]? = some u → vs[j]? = some v → lessS u.1 v.1 = true
theorem varsA_at {vs : List WV} : ∀ (n k : Nat), n = vs.length - k → varsA vs k = true → ∀ i, k ≤ i → i < vs.length → okAt vs i = true
  | 0, k, hn, h, i, h1, h2 => by omega
  | n + 1, k, hn, h, i, h1, h2 => by
    rw [varsA_step (by omega), Bool.and_eq_true] at h
    rcases Nat.lt_or_ge k i with h3 | h3
    · exact varsA_at n (k + 1) (by omega) h.2 i h3 h2
    · obtain rfl : i = k := by omega
      exact h.1
theorem varsA_of {vs : List WV} : ∀ (n k : Nat), n = vs.length - k → (∀ i, k ≤ i → i < vs.length → okAt vs i = true) → varsA vs k = true
  | 0, k, hn, h => varsA_over (by omega)
  | n + 1, k, hn, h => by
    rw [varsA_step (by omega), h k (Nat.le_refl _) (by omega), varsA_of n (k + 1) (by omega) fun i h1 h2 => h i (by omega) h2]
    rfl
theorem asc_of {vs : List WV} (h : varsA vs 0 = true) : Asc vs := by
  have hk := varsA_at _ 0 rfl h
  have step : ∀ (i : Nat) (u v : WV), vs[i]? = some u → vs[i + 1]? = some v → lessS u.1 v.1 = true := by
    intro i u v hu hv
    have hlt : i + 1 < vs.length := (List.getElem?_eq_some_iff.1 hv).1
    have := hk (i + 1) (Nat.zero_le _) hlt
    simp only [okAt, hv, hu, Bool.and_eq_true] at this
    exact this.2
  intro i j u v hij hu hv
  have key : ∀ (d : Nat) (v : WV), vs[i + d + 1]? = some v → lessS u.1 v.1 = true := by
    intro d
    induction d with
    | zero => intro v hv; exact step i u v hu hv
    | succ d ih =>
      intro v hv
      have hlt : i + d + 1 < vs.length := by have := (List.getElem?_eq_some_iff.1 hv).1; omega
      exact lessS_trans (ih _ (List.getElem?_eq_getElem hlt)) (step _ _ v (List.getElem?_eq_getElem hlt) hv)
  exact key (j - i - 1) v (by rw [show i + (j - i - 1) + 1 = j by omega]; exact hv)

/-- How many come ahead of a name. -/
def low (vs : List WV) (nm : ByteArray) : Nat := vs.findIdx fun u => !lessS u.1 nm
theorem low_le (vs : List WV) (nm : ByteArray) : low vs nm ≤ vs.length := List.findIdx_le_length
theorem low_lt {vs : List WV} {nm : ByteArray} {k : Nat} {u : WV} (hk : k < low vs nm) (hu : vs[k]? = some u) : lessS u.1 nm = true := by
  have hlt : k < vs.length := (List.getElem?_eq_some_iff.1 hu).1
  have h := List.not_of_lt_findIdx (xs := vs) (p := fun u => !lessS u.1 nm) hk
  rw [List.getElem?_eq_getElem hlt] at hu
  rw [Option.some.inj hu] at h
  simpa using h
theorem low_at {vs : List WV} {nm : ByteArray} {u : WV} (hu : vs[low vs nm]? = some u) : lessS u.1 nm = false := by
  have hlt : low vs nm < vs.length := (List.getElem?_eq_some_iff.1 hu).1
  have h := List.findIdx_getElem (xs := vs) (p := fun u : WV => !lessS u.1 nm) (w := hlt)
  rw [List.getElem?_eq_getElem hlt] at hu
  have hu := Option.some.inj hu
  unfold low at hu
  rw [hu] at h
  simpa using h
theorem low_ge {vs : List WV} {nm : ByteArray} (ha : Asc vs) {k : Nat} {u : WV} (hk : low vs nm ≤ k) (hu : vs[k]? = some u) : lessS u.1 nm = false := by
  have hlt : k < vs.length := (List.getElem?_eq_some_iff.1 hu).1
  have h0 : vs[low vs nm]? = some (vs[low vs nm]'(by omega)) := List.getElem?_eq_getElem _
  rcases Nat.lt_or_ge (low vs nm) k with h | h
  · cases h1 : lessS u.1 nm with
    | false => rfl
    | true =>
      have := lessS_trans (ha _ _ _ _ h h0 hu) h1
      rw [low_at h0] at this
      cases this
  · obtain rfl : k = low vs nm := by omega
    exact low_at hu
theorem low_gt {vs : List WV} {nm : ByteArray} (ha : Asc vs) {k : Nat} {u : WV} (hk : low vs nm < k) (hu : vs[k]? = some u) : lessS nm u.1 = true := by
  have hlt : k < vs.length := (List.getElem?_eq_some_iff.1 hu).1
  have h0 : vs[low vs nm]? = some (vs[low vs nm]'(by omega)) := List.getElem?_eq_getElem _
  have h1 := low_at h0
  have h2 := ha _ _ _ _ hk h0 hu
  rcases lessS_total (vs[low vs nm]'(by omega)).1 nm with h3 | h3 | h3
  · rw [h1] at h3; cases h3
  · rw [← h3]; exact h2
  · exact lessS_trans h3 h2
/-- Does it stand there? -/
def isAt (vs : List WV) (nm : ByteArray) : Bool := match vs[low vs nm]? with | some u => eqS u.1 nm | none => false
/-- What comes of laying a value in. -/
def withV (vs : List WV) (w : WV) : List WV := vs.take (low vs w.1) ++ [w] ++ vs.drop (low vs w.1 + if isAt vs w.1 then 1 else 0)
def withB (vs : List WV) (w : WV) : List WV := if varsB vs && nameB w.1 then withV vs w else vs
end Go.Proofs.YtlcbhhmnfmeoeaaGreatDoor

namespace Go.Proofs.YtlcbhhmnfmeoeaaGreatDoor
open Vai
set_option maxHeartbeats 0
theorem c39 {c : FuncId} (a b : ByteArray) (h : H) (hm : md c 39 = .keep) : callD (cx.at c) (call cx prim) 39 [.t (.str a), .t (.str b)] h = some (.t (.int .i64 (cmpS a b)), h) :=
  keepT (cc := cx.at c) cb39 hm ((call_prim (cx := cx) (prim := prim) (g := cmpA) rfl _ h).trans rfl)
theorem s38 (v : WV) (nm : ByteArray) : ∃ h', call cx prim 38 [.t (varW v), .t (.str nm)] .empty = some (.t (.int .i64 (cmpS v.1 nm)), h') := by
  rw [call_run (cx := cx) rfl Tryz.func38 ok38 nd38 rfl (Nat.le_of_ble_eq_true rfl) rfl rfl]
  have q39 := fun h => c39 (c := 38) v.1 nm h (by simp [md])
  simp -implicitDefEqProofs (disch := omega) [q39]
theorem c38 {c : FuncId} (v : WV) (nm : ByteArray) (h : H) (hm : md c 38 = .pure) : callD (cx.at c) (call cx prim) 38 [.t (varW v), .t (.str nm)] h = some (.t (.int .i64 (cmpS v.1 nm)), h) := by
  obtain ⟨h', q⟩ := s38 v nm
  exact pureT cb38 hm q rfl rfl
/-- A slice of variables that a function may hold: a tree, or a row of its own. -/
def VS (lo : Nat) (h : H) (d : D) (vs : List WV) : Prop := (vs = [] ∧ d = .t .nilSlice) ∨ ∃ id, lo ≤ id ∧ id < h.next ∧ d = .row id 0 vs.length vs.length ∧ h.objs id = some (.row 34 4 ((vs.map varW).map .t))
theorem s36 {a : D} {x : T} {vs : List WV} {h : H} (hx : Slice x (vs.map varW)) (ha : a = .t x ∨ ∃ id i top es, id < h.next ∧ a = .row id i vs.length top ∧ h.els id top = some (34, 4, es) ∧ i + vs.length ≤ es.length ∧ (es.drop i).take vs.length = (vs.map varW).map .t) (hs : vs.length ≤ 2000000) :
    ∃ d h', call cx prim 36 [a] h = some (d, h') ∧ VS h.next h' d vs ∧ h.next ≤ h'.next ∧ (∀ id, id < h.next → h'.objs id = h.objs id) ∧ h'.marks = h.marks := by
  rw [call_run (cx := cx) rfl Tryz.func36 ok36 nd36 rfl (Nat.le_of_ble_eq_true rfl) rfl rfl]
  have hall : (vs.map varW).all (fun y => y.cells.length == 4) = true := by simp [List.all_map]
  have happ : ∀ d, sourceD (brow 34 4 [] h).2 d = some ((vs.map varW).map .t) → appendD Tryz.prog (brow 34 4 [] h).2 31 (brow 34 4 [] h).1 d = some (brow 34 4 (vs.map varW) h) := fun d hd => by
    have := append_brow (P := Tryz.prog) (xs := []) (ys := vs.map varW) (h := h) tk31 sz34 byt34 zero34 rfl (by decide) hd hall (by simp; omega) (by simp; omega)
    simpa using this
  have hfin : VS h.next (brow 34 4 (vs.map varW) h).2 (brow 34 4 (vs.map varW) h).1 vs ∧ h.next ≤ (brow 34 4 (vs.map varW) h).2.next ∧ (∀ id, id < h.next → (brow 34 4 (vs.map varW) h).2.objs id = h.objs id) ∧ (brow 34 4 (vs.map varW) h).2.marks = h.marks := by
    refine ⟨.inr ⟨h.next, Nat.le_refl _, by simp [brow], by simp [brow], by simp [brow]⟩, by simp [brow], fun id hid => ?_, rfl⟩
    have : ¬ id = h.next := by omega
    simp [brow, this]
  rcases ha with rfl | ⟨id, i, top, es, hin, rfl, he, hle, hes⟩
  · rcases hx with ⟨rfl, hn⟩ | rfl
    · have hv : vs = [] := by simpa using hn
      subst hv
      simp -implicitDefEqProofs (disch := omega) [VS]
      exact ⟨_, _, ⟨rfl, rfl⟩, .inl rfl, Nat.le_refl _, fun _ _ => rfl, rfl⟩
    · have h1 := happ (.t (.slice (vs.map varW))) rfl
      simp only [brow, List.length_nil, List.map_nil] at h1
      simp -implicitDefEqProofs (disch := omega) [buildSliceD, h1]
      exact ⟨_, _, ⟨rfl, rfl⟩, by simpa [brow] using hfin⟩
  · have hne : ¬ id = h.next := by omega
    have hpe : ∀ o, (h.push o).els id top = h.els id top := fun o => by simp [H.els, hne]
    have h1 := happ (.row id i vs.length top) (by
      simp only [sourceD, brow]
      rw [hpe, he]
      simp only [hle, if_true, hes])
    simp only [brow, List.length_nil, List.map_nil] at h1
    have hie : (h.els id top).isSome = true := by rw [he]; rfl
    simp -implicitDefEqProofs (disch := omega) [-H.els, buildSliceD, h1, he]
    exact ⟨_, _, ⟨rfl, rfl⟩, by simpa [brow] using hfin⟩
end Go.Proofs.YtlcbhhmnfmeoeaaGreatDoor

namespace Go.Proofs.YtlcbhhmnfmeoeaaGreatDoor
open Vai
set_option maxHeartbeats 0
theorem fdiv2 (a : Nat) : (a : Int).fdiv (2 ^ min 1 64) = ((a / 2 : Nat) : Int) := by
  have : (2 : Int) ^ min 1 64 = 2 := by decide
  rw [this, Int.fdiv_eq_ediv_of_nonneg _ (by decide)]
  rfl
theorem s37 {d : D} {vs : List WV} {nm : ByteArray} {h : H} {lo : Nat} (hd : VS lo h d vs) (hs : vs.length ≤ 2000000) (ha : Asc vs) :
    call cx prim 37 [d, .t (.str nm), .func (.func 38) [] []] h = some (.tup [.t (.int .i64 (low vs nm)), .t (.bool (isAt vs nm))], h) := by
  rw [call_run (cx := cx) rfl Tryz.func37 ok37 nd37 rfl (Nat.le_of_ble_eq_true rfl) rfl rfl]
  have q38 := fun v h => c38 (c := 37) v nm h (by simp [md])
  rcases hd with ⟨rfl, rfl⟩ | ⟨id, hlo, hid, rfl, ho⟩
  · simp -implicitDefEqProofs (disch := omega) []
    rw [loop_step, LB_run nd37 rfl]
    simp -implicitDefEqProofs (disch := omega) [low, isAt]
  · have hlow := low_le vs nm
    simp -implicitDefEqProofs (disch := omega) [ho]
    generalize hLp : loopω _ _ = L
    obtain ⟨x', ⟨nn, env, h2⟩, rfl, rfl, rfl, e0, e1, e2, e8, e9, rfl⟩ := loop_uses hLp vs.length
      (fun k st => ∃ i j : Nat, st.n = 49 ∧ i ≤ low vs nm ∧ low vs nm ≤ j ∧ j ≤ vs.length ∧ j - i + k ≤ vs.length ∧ st.env 0 = .row id 0 vs.length vs.length ∧ st.env 1 = .t (.str nm) ∧ st.env 2 = .func (.func 38) [] [] ∧ st.env 8 = .t (.int .i64 vs.length) ∧ st.env 9 = .t (.int .i64 i) ∧ st.env 10 = .t (.int .i64 j) ∧ st.h = h)
      (fun x' st => x' = .exit 0 ∧ st.n = 49 ∧ st.env 0 = .row id 0 vs.length vs.length ∧ st.env 1 = .t (.str nm) ∧ st.env 2 = .func (.func 38) [] [] ∧ st.env 8 = .t (.int .i64 vs.length) ∧ st.env 9 = .t (.int .i64 (low vs nm)) ∧ st.h = h)
      (by refine ⟨0, vs.length, rfl, ?_⟩; simp; exact hlow) (by
      rintro k ⟨nn, env, h2⟩ hk ⟨i, j, rfl, hi, hj, hjn, hij, e0, e1, e2, e8, e9, e10, rfl⟩
      simp only at e0 e1 e2 e8 e9 e10 ho
      clear hLp
      rw [LB_run nd37 rfl]
      by_cases hlt : i < j
      · obtain ⟨v, hv⟩ : ∃ v, vs[(i + j) / 2]? = some v := ⟨vs[(i + j) / 2]'(by omega), by simp [show (i + j) / 2 < vs.length by omega]⟩
        have g1 : ((vs.map varW).map D.t)[(i + j) / 2]? = some (.t (varW v)) := by simp [hv]
        obtain ⟨mm, hmm⟩ : ∃ mm, mm = (i + j) / 2 := ⟨_, rfl⟩
        rw [← hmm] at hv g1
        have w1 : ((i : Int) + (j : Int)).fdiv 2 = (mm : Int) := by
          rw [Int.fdiv_eq_ediv_of_nonneg _ (by decide)]; omega
        have c1 : (i : Int) < j := by omega
        have c2 : mm < vs.length := by omega
        by_cases hc : cmpS v.1 nm < 0
        · have hl := (cmpS_lt _ _).1 hc
          have : mm < low vs nm := by
            apply Classical.byContradiction
            intro hn
            rw [low_ge ha (by omega) hv] at hl
            cases hl
          simp -implicitDefEqProofs (disch := omega) [-List.map_map, e0, e1, e2, e8, e9, e10, w1, ho, g1, q38, hc, c2, Wp_some]
          exact ⟨by omega, mm + 1, by omega, j, hj, hjn, by omega, by simp, rfl⟩
        · have : low vs nm ≤ mm := by
            apply Classical.byContradiction
            intro hn
            exact hc ((cmpS_lt _ _).2 (low_lt (by omega) hv))
          simp -implicitDefEqProofs (disch := omega) [-List.map_map, e0, e1, e2, e8, e9, e10, w1, ho, g1, q38, hc, c2, Wp_some]
          exact ⟨by omega, i, hi, mm, this, by omega, by omega, rfl, rfl⟩
      · obtain rfl : j = i := by omega
        have hli : low vs nm = j := by omega
        simp -implicitDefEqProofs (disch := omega) [e0, e1, e2, e8, e9, e10, Wp_some, hli])
    simp only at e0 e1 e2 e8 e9 ho
    unfold isAt
    by_cases hlt : low vs nm < vs.length
    · obtain ⟨v, hv⟩ : ∃ v, vs[low vs nm]? = some v := ⟨vs[low vs nm]'hlt, by simp [hlt]⟩
      have g1 : ((vs.map varW).map D.t)[low vs nm]? = some (.t (varW v)) := by simp [hv]
      have c1 : (low vs nm : Int) < vs.length := by omega
      have hq : eqI (cmpS v.1 nm) 0 = eqS v.1 nm := by
        unfold eqI eqS
        exact decide_eq_decide.2 (cmpS_eq _ _)
      simp -implicitDefEqProofs (disch := omega) [-List.map_map, e0, e1, e2, e8, e9, ho, g1, q38, hv, hq, hlt]
      rw [Option.some.inj ((List.getElem?_eq_getElem hlt).symm.trans hv)]
    · have hn : vs[low vs nm]? = none := List.getElem?_eq_none (by omega)
      simp -implicitDefEqProofs (disch := omega) [-List.map_map, e0, e1, e2, e8, e9, ho, hn]
end Go.Proofs.YtlcbhhmnfmeoeaaGreatDoor

namespace Go.Proofs.YtlcbhhmnfmeoeaaGreatDoor
open Vai
set_option maxHeartbeats 0
theorem q40 {d : D} {vs : List WV} {w : WV} {p : Nat} {h : H} {lo : Nat} (hd : VS lo h d vs) (hlo : lo ≤ h.next) (hp : p ≤ vs.length) (hs : vs.length ≤ 2000000) :
    ∃ d' h', insA 40 [d, .t (.int .i64 p), .row h.next 0 1 1] (h.push (.row 34 4 [.t (varW w)])) = some (d', h') ∧ VS lo h' d' (vs.take p ++ [w] ++ vs.drop p) ∧ h.next ≤ h'.next ∧ (∀ id, id < lo → h'.objs id = h.objs id) ∧ h'.marks = h.marks := by
  have hsrc : sourceD (h.push (.row 34 4 [.t (varW w)])) (.row h.next 0 1 1) = some [.t (varW w)] := by simp [sourceD]
  rcases hd with ⟨rfl, rfl⟩ | ⟨id, hl, hid, rfl, ho⟩
  · obtain rfl : p = 0 := by simpa using hp
    simp -implicitDefEqProofs (disch := omega) [insA, appendD, hsrc]
    refine ⟨_, _, ⟨rfl, rfl⟩, .inr ⟨h.next + 1, by omega, by simp, rfl, by simp⟩, by simp; omega, fun id hid => ?_, rfl⟩
    have h1 : ¬ id = h.next + 1 := by omega
    have h2 : ¬ id = h.next := by omega
    simp [h1, h2]
  · have hne : ¬ id = h.next := by omega
    have hne' : ¬ h.next = id := by omega
    by_cases hpn : p = vs.length
    · subst hpn
      simp -implicitDefEqProofs (disch := omega) [insA, appendD, hsrc, ho, hne]
      refine ⟨_, _, ⟨⟨by omega, by omega⟩, rfl, rfl⟩, .inr ⟨id, hl, by simp; omega, by simp, by simp⟩, by simp, fun i hi => ?_, rfl⟩
      have h1 : ¬ i = id := by omega
      have h2 : ¬ i = h.next := by omega
      simp [h1, h2]
    · have hpi : ¬ ((p : Int) = vs.length) := by omega
      simp -implicitDefEqProofs (disch := omega) [insA, hsrc, ho, hne, hpi]
      refine ⟨_, _, ⟨hp, by omega, rfl, rfl⟩, .inr ⟨h.next + 1, by omega, by simp, by simp; omega, by simp⟩, by simp; omega, fun i hi => ?_, rfl⟩
      have h1 : ¬ i = h.next + 1 := by omega
      have h2 : ¬ i = h.next := by omega
      have h3 : ¬ i = id := by omega
      simp [h1, h2, h3]
end Go.Proofs.YtlcbhhmnfmeoeaaGreatDoor

namespace Go.Proofs.YtlcbhhmnfmeoeaaGreatDoor
open Vai
set_option maxHeartbeats 0
/-- What a function takes as variables: a tree, or a part of a row. -/
def VA (h : H) (a : D) (vs : List WV) : Prop := ∃ x, Slice x (vs.map varW) ∧ snap h a = some x ∧ (a = .t x ∨ ∃ id i top es, id < h.next ∧ a = .row id i vs.length top ∧ h.els id top = some (34, 4, es) ∧ i + vs.length ≤ es.length ∧ (es.drop i).take vs.length = (vs.map varW).map .t)
theorem s14 {a : D} {vs : List WV} {w : WV} {h : H} (ha : VA h a vs) (hs : smallW vs) (hn : w.1.size ≤ 1000000000) :
    ∃ d h', call cx prim 14 [a, .t (.str w.1), .t (valT w.2.1 w.2.2.1 w.2.2.2)] h = some (d, h') ∧ VS h.next h' d (withB vs w) ∧ h.next ≤ h'.next ∧ (∀ id, id < h.next → h'.objs id = h.objs id) ∧ h'.marks = h.marks := by
  obtain ⟨x, hx, hsn, ha⟩ := ha
  rw [call_run (cx := cx) rfl Tryz.func14 ok14 nd14 rfl (Nat.le_of_ble_eq_true rfl) rfl rfl]
  obtain ⟨nm, k, n, sv⟩ := w
  simp only at hn ⊢
  -- the variable that holds the value
  have hstay : ∀ g : H, (∀ id, id < h.next → g.objs id = h.objs id) → snap g a = some x := by
    intro g hg
    rcases ha with rfl | ⟨id, i, top, es, hid, rfl, he, hle, hes⟩
    · rfl
    · have : g.els id top = h.els id top := by simp only [H.els, hg id hid]
      rw [← hsn]
      simp only [snap_def, snapF_row, this, he, hle, if_true, hes]
      rw [snapF_map, snapF_map]
  obtain ⟨d1, h2, e36, v36, n36, k36, m36⟩ := s36 (a := a) (h := h.push (.row 23 3 [.t (valT k n sv)])) hx (by
    rcases ha with rfl | ⟨id, i, top, es, hid, rfl, he, hle, hes⟩
    · exact .inl rfl
    · have hne : ¬ id = h.next := by omega
      exact .inr ⟨id, i, top, es, by simp; omega, rfl, by simpa [H.els, hne] using he, hle, hes⟩) hs.1
  have q36 := keepT (cc := cx.at 14) cb36 (by simp [md]) e36
  have hk2 : ∀ id, id < h.next → h2.objs id = h.objs id := fun id hid => by
    have hne : ¬ id = h.next := by omega
    rw [k36 id (by simp; omega)]
    simp [hne]
  have hb2 : h2.objs h.next = some (.row 23 3 [.t (valT k n sv)]) := by rw [k36 _ (by simp)]; simp
  have q22 := c22 (c := 14) h2 (hstay h2 hk2) hx hs (by simp [md])
  have q17 := c17 (c := 14) nm h2 hn (by simp [md])
  simp only [push_next] at v36 n36
  have hlow := low_le vs nm
  have mono : ∀ {g : H} {d : D} {l : List WV}, VS (h.next + 1) g d l → VS h.next g d l := fun h1 => by
    rcases h1 with h1 | ⟨id, h1, h2⟩
    · exact .inl h1
    · exact .inr ⟨id, by omega, h2⟩
  unfold withB
  simp only
  cases hv : varsB vs with
  | false =>
    rw [hv] at q22
    simp -implicitDefEqProofs (disch := omega) [q36, q22]
    exact ⟨_, _, ⟨rfl, rfl⟩, mono v36, by omega, hk2, m36⟩
  | true =>
    rw [hv] at q22
    cases hnm : nameB nm with
    | false =>
      rw [hnm] at q17
      simp -implicitDefEqProofs (disch := omega) [q36, q22, q17]
      exact ⟨_, _, ⟨rfl, rfl⟩, mono v36, by omega, hk2, m36⟩
    | true =>
      rw [hnm] at q17
      have hasc : Asc vs := asc_of (by unfold varsB at hv; rw [Bool.and_eq_true] at hv; exact hv.1)
      have q37 := keepT (cc := cx.at 14) cb37 (by simp [md]) (s37 (nm := nm) v36 hs.1 hasc)
      cases his : isAt vs nm with
      | false =>
        rw [his] at q37
        obtain ⟨d', h', e40, v40, n40, k40, m40⟩ := q40 (w := (nm, k, n, sv)) v36 (by omega) hlow hs.1
        have q40' := keepT (cc := cx.at 14) cb40 (by simp [md]) ((call_prim (cx := cx) (prim := prim) (g := insA) rfl _ _).trans e40)
        simp -implicitDefEqProofs (disch := omega) [q36, q22, q17, q37, hb2, buildSliceD, q40']
        refine ⟨_, _, ⟨rfl, rfl⟩, ?_, by omega, fun id hid => (k40 id (by omega)).trans (hk2 id hid), m40.trans m36⟩
        unfold withV
        rw [his]
        exact mono v40
      | true =>
        rw [his] at q37
        obtain ⟨u, hu, hun⟩ : ∃ u, vs[low vs nm]? = some u ∧ u.1 = nm := by
          unfold isAt at his
          split at his
          · rename_i u hu
            exact ⟨u, hu, by simpa [eqS] using his⟩
          · cases his
        have hlt : low vs nm < vs.length := (List.getElem?_eq_some_iff.1 hu).1
        rcases v36 with ⟨rfl, _⟩ | ⟨id, hlo, hid, rfl, ho⟩
        · simp at hlt
        have g1 : ((vs.map varW).map D.t)[low vs nm]? = some (.t (varW u)) := by simp [hu]
        simp -implicitDefEqProofs (disch := omega) [-List.map_map, q36, q22, q17, q37, hb2, ho, g1, hlt]
        have hwv : withV vs (nm, k, n, sv) = vs.set (low vs nm) (nm, k, n, sv) := by
          unfold withV
          simp only
          rw [his, List.set_eq_take_append_cons_drop, if_pos hlt]
          simp
        rw [hwv, hun]
        refine ⟨_, _, ⟨rfl, rfl⟩, .inr ⟨id, by omega, by simp; omega, by simp, ?_⟩, by simp; omega, fun i hi => ?_, m36⟩
        · simp only [set_objs, upd_same, List.map_set]
        · have h1 : ¬ i = id := by omega
          simp [h1, hk2 i hi]
end Go.Proofs.YtlcbhhmnfmeoeaaGreatDoor

namespace Go.Proofs.YtlcbhhmnfmeoeaaGreatDoor
open Vai
set_option maxHeartbeats 0
theorem app_one {d : D} {out : List WV} {w : WV} {h : H} {lo : Nat} (hd : VS lo h d out) (hlo : lo ≤ h.next) (hs : out.length ≤ 2000002) :
    ∃ d' h', appendD Tryz.prog (h.push (.row 34 4 [.t (varW w)])) 31 d (.row h.next 0 1 1) = some (d', h') ∧ VS lo h' d' (out ++ [w]) ∧ h.next ≤ h'.next ∧ (∀ id, id < lo → h'.objs id = h.objs id) := by
  have hsrc : sourceD (h.push (.row 34 4 [.t (varW w)])) (.row h.next 0 1 1) = some [.t (varW w)] := by simp [sourceD]
  rcases hd with ⟨rfl, rfl⟩ | ⟨id, hl, hid, rfl, ho⟩
  · simp -implicitDefEqProofs (disch := omega) [appendD, hsrc]
    refine ⟨_, _, ⟨rfl, rfl⟩, .inr ⟨h.next + 1, by omega, by simp, rfl, by simp⟩, by simp; omega, fun id hid => ?_⟩
    have h1 : ¬ id = h.next + 1 := by omega
    have h2 : ¬ id = h.next := by omega
    simp [h1, h2]
  · have hne : ¬ id = h.next := by omega
    simp -implicitDefEqProofs (disch := omega) [appendD, hsrc, ho, hne]
    refine ⟨_, _, ⟨⟨by omega, by omega⟩, rfl, rfl⟩, .inr ⟨id, hl, by simp; omega, by simp, by simp⟩, by simp, fun i hi => ?_⟩
    have h1 : ¬ i = id := by omega
    have h2 : ¬ i = h.next := by omega
    simp [h1, h2]
/-- What stands there behind k rounds. -/
def outL (vs : List WV) (w : WV) (k : Nat) : List WV := if k ≤ low vs w.1 then vs.take k else vs.take (low vs w.1) ++ [w] ++ (vs.take k).drop (low vs w.1 + if isAt vs w.1 then 1 else 0)
theorem outL_len (vs : List WV) (w : WV) (k : Nat) : (outL vs w k).length ≤ vs.length + 1 := by
  unfold outL
  have := low_le vs w.1
  split
  · simp; omega
  · simp; split <;> omega
theorem outL_less {vs : List WV} {w u : WV} {k : Nat} (hu : vs[k]? = some u) (hk : k < low vs w.1) : outL vs w (k + 1) = outL vs w k ++ [u] := by
  unfold outL
  rw [if_pos (by omega), if_pos (by omega), List.take_add_one, hu]
  rfl
theorem outL_is {vs : List WV} {w u : WV} {k : Nat} (hu : vs[k]? = some u) (hk : k = low vs w.1) (he : eqS u.1 w.1 = true) : outL vs w (k + 1) = outL vs w k ++ [w] := by
  unfold outL
  have hi : isAt vs w.1 = true := by unfold isAt; rw [← hk, hu]; exact he
  rw [if_neg (show ¬ k + 1 ≤ low vs w.1 by omega), if_pos (show k ≤ low vs w.1 by omega), hi, if_pos rfl, hk, List.drop_take]
  simp
theorem outL_at {vs : List WV} {w u : WV} {k : Nat} (hu : vs[k]? = some u) (hk : k = low vs w.1) (he : eqS u.1 w.1 = false) : outL vs w (k + 1) = outL vs w k ++ [w] ++ [u] := by
  unfold outL
  have hi : isAt vs w.1 = false := by unfold isAt; rw [← hk, hu]; exact he
  have hlt : k < vs.length := (List.getElem?_eq_some_iff.1 hu).1
  rw [if_neg (show ¬ k + 1 ≤ low vs w.1 by omega), if_pos (show k ≤ low vs w.1 by omega), hi]
  simp only [Bool.false_eq_true, if_false, Nat.add_zero]
  rw [← hk, List.take_add_one, hu, List.drop_append]
  simp [Nat.min_eq_left (Nat.le_of_lt hlt)]
theorem outL_more {vs : List WV} {w u : WV} {k : Nat} (hu : vs[k]? = some u) (hk : low vs w.1 < k) : outL vs w (k + 1) = outL vs w k ++ [u] := by
  unfold outL
  have hlt : k < vs.length := (List.getElem?_eq_some_iff.1 hu).1
  rw [if_neg (show ¬ k + 1 ≤ low vs w.1 by omega), if_neg (show ¬ k ≤ low vs w.1 by omega), List.take_add_one, hu, List.drop_append]
  have : (low vs w.1 + if isAt vs w.1 then 1 else 0) - (vs.take k).length = 0 := by
    rw [List.length_take]
    split <;> omega
  rw [this]
  simp
theorem outL_end {vs : List WV} {w : WV} : (if low vs w.1 < vs.length then outL vs w vs.length else outL vs w vs.length ++ [w]) = withV vs w := by
  have := low_le vs w.1
  unfold outL withV
  split
  · rw [if_neg (by omega), List.take_length]
  · have e : low vs w.1 = vs.length := by omega
    rw [if_pos (by omega), e, List.take_length, List.drop_of_length_le (by omega)]
    simp
end Go.Proofs.YtlcbhhmnfmeoeaaGreatDoor
