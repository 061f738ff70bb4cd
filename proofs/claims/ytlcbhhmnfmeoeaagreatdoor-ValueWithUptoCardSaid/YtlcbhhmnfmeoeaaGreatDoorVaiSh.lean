import Derived.Test.YtlcbhhmnfmeoeaaGreatDoorVaiSg
import Derived.Test.YtlcbhhmnfmeoeaaGreatDoorVaiSc
import Derived.Shelf.Strconv.ParseIntPublic10
import Derived.Shelf.Strconv.Itoa4
import Derived.Lib.AppendIntMem
set_option linter.unusedSimpArgs false
set_option linter.unusedVariables false
set_option linter.unusedSectionVars false
namespace Go.Proofs.YtlcbhhmnfmeoeaaGreatDoor
open Vai
set_option maxHeartbeats 0
theorem s25 {x : T} {vs : List WV} {w : WV} (hx : Slice x (vs.map varW)) (hs : smallW vs) (hn : w.1.size ≤ 1000000000) :
    ∃ d h', call cx prim 25 [.t x, .t (.str w.1), .t (valT w.2.1 w.2.2.1 w.2.2.2)] .empty = some (d, h') ∧ VS 1 h' d (withB vs w) := by
  rw [call_run (cx := cx) rfl Tryz.func25 ok25 nd25 rfl (Nat.le_of_ble_eq_true rfl) rfl rfl]
  have q23 := fun h => c23 (c := 25) (d := .t x) h rfl hx hs (by simp [md])
  have q18 := fun h => c18 (c := 25) w.1 h hn (by simp [md])
  have hlx := fun hh => hx.len (P := Tryz.prog) (t := 31) tk31 hh
  rw [List.length_map] at hlx
  have hs1 := hs.1
  have hlow := low_le vs w.1
  have hb0 : ∀ (P : Program), True := fun _ => trivial
  have hret : ∀ h : H, ∃ d h', appendD Tryz.prog h 31 (.t .nilSlice) (.t x) = some (d, h') ∧ (1 ≤ h.next → VS 1 h' d vs) := by
    intro h
    have hsrc : sourceD h (.t x) = some ((vs.map varW).map .t) := by
      rcases hx with ⟨rfl, e⟩ | rfl
      · rw [e]; rfl
      · rfl
    refine ⟨(nrow 34 4 (vs.map varW) h).1, (nrow 34 4 (vs.map varW) h).2, append_nil (P := Tryz.prog) (h := h) tk31 sz34 byt34 zero34 rfl (by decide) hsrc (by simp [List.all_map]) (by simp; omega) (by simp; omega), fun h1 => ?_⟩
    by_cases hv : vs = []
    · subst hv; exact .inl ⟨rfl, rfl⟩
    · rw [nrow_cons (by simpa using hv)]
      exact .inr ⟨h.next, h1, by simp, by simp, by simp⟩
  obtain ⟨nm, k, n, sv⟩ := w
  simp only at q18 hn hlow ⊢
  unfold withB
  simp only
  cases hv : varsB vs with
  | false =>
    rw [hv] at q23
    obtain ⟨d, h', e1, e2⟩ := hret (H.empty.push (.row 23 3 [.t (valT k n sv)]))
    simp -implicitDefEqProofs (disch := omega) [q23, e1]
    exact ⟨_, _, ⟨rfl, rfl⟩, e2 (by simp)⟩
  | true =>
    rw [hv] at q23
    cases hnm : nameB nm with
    | false =>
      rw [hnm] at q18
      obtain ⟨d, h', e1, e2⟩ := hret (H.empty.push (.row 23 3 [.t (valT k n sv)]))
      simp -implicitDefEqProofs (disch := omega) [q23, q18, e1]
      exact ⟨_, _, ⟨rfl, rfl⟩, e2 (by simp)⟩
    | true =>
      rw [hnm] at q18
      have hasc : Asc vs := asc_of (by unfold varsB at hv; rw [Bool.and_eq_true] at hv; exact hv.1)
      simp -implicitDefEqProofs (disch := omega) [q23, q18]
      generalize hLp : loopω _ _ = L
      obtain ⟨x', ⟨nn, env, h2⟩, rfl, rfl, rfl, d, e1, e5, e7, e8, ho, hnx, hvs⟩ := loop_uses hLp vs.length
        (fun j st => st.n = 67 ∧ ∃ d, st.env 0 = .t x ∧ st.env 1 = .t (.str nm) ∧ st.env 5 = .ptr 0 0 0 1 ∧ st.env 7 = d ∧ st.env 8 = .t (.bool (decide (low vs nm < j))) ∧ st.env 9 = .t (.int .i64 j) ∧ st.h.objs 0 = some (.row 23 3 [.t (valT k n sv)]) ∧ 1 ≤ st.h.next ∧ VS 1 st.h d (outL vs (nm, k, n, sv) j))
        (fun x' st => x' = .exit 0 ∧ st.n = 67 ∧ ∃ d, st.env 1 = .t (.str nm) ∧ st.env 5 = .ptr 0 0 0 1 ∧ st.env 7 = d ∧ st.env 8 = .t (.bool (decide (low vs nm < vs.length))) ∧ st.h.objs 0 = some (.row 23 3 [.t (valT k n sv)]) ∧ 1 ≤ st.h.next ∧ VS 1 st.h d (outL vs (nm, k, n, sv) vs.length))
        (by refine ⟨rfl, .t .nilSlice, ?_⟩; simp; exact .inl ⟨by simp [outL], rfl⟩) (by
        clear hLp
        rintro j ⟨nn, env, h2⟩ hj ⟨rfl, d, e0, e1, e5, e7, e8, e9, ho, hnx, hvs⟩
        simp only at e0 e1 e5 e7 e8 e9 ho hnx hvs
        rw [LB_run nd25 rfl]
        have hol := outL_len vs (nm, k, n, sv) j
        by_cases hj' : j < vs.length
        · obtain ⟨u, hu⟩ : ∃ u, vs[j]? = some u := ⟨vs[j], by simp [hj']⟩
          have hxe : x = .slice (vs.map varW) := hx.eq_of_ne (by intro e; have := congrArg List.length e; simp at this; subst this; simp at hj')
          subst hxe
          have hg : (vs.map varW)[j]? = some (varW u) := by rw [List.getElem?_map, hu]; rfl
          have c1 : (j : Int) < vs.length := by omega
          rcases Nat.lt_trichotomy j (low vs nm) with hjl | hjl | hjl
          · have hl := low_lt hjl hu
            have hne : eqS u.1 nm = false := by
              apply Bool.eq_false_iff.2
              intro h
              unfold eqS at h
              rw [of_decide_eq_true h, lessS_irrefl] at hl
              cases hl
            unfold lessS at hl
            have d1 : ¬ low vs nm < j := by omega
            have d2 : ¬ low vs nm < j + 1 := by omega
            obtain ⟨d', h', a1, a2, a3, a4⟩ := app_one (w := u) hvs hnx (by omega)
            simp -implicitDefEqProofs (disch := omega) [-List.getElem?_map, e0, e1, e5, e7, e8, e9, ho, hg, hl, hne, d1, d2, buildSliceD, a1, Wp_some]
            exact ⟨hj', (a4 0 (by decide)).trans ho, by omega, by rw [outL_less (w := (nm, k, n, sv)) hu hjl]; exact a2⟩
          · have hl := low_at (nm := nm) (by rw [← hjl]; exact hu)
            unfold lessS at hl
            have d1 : ¬ low vs nm < j := by omega
            have d2 : low vs nm < j + 1 := by omega
            obtain ⟨d', h', a1, a2, a3, a4⟩ := app_one (w := (nm, k, n, sv)) hvs hnx (by omega)
            have ho' := (a4 0 (by decide)).trans ho
            cases he : eqS u.1 nm with
            | true =>
              simp -implicitDefEqProofs (disch := omega) [-List.getElem?_map, e0, e1, e5, e7, e8, e9, ho, hg, hl, he, d1, d2, buildSliceD, a1, Wp_some]
              exact ⟨hj', ho', by omega, by rw [outL_is (w := (nm, k, n, sv)) hu hjl he]; exact a2⟩
            | false =>
              obtain ⟨d'', h'', b1, b2, b3, b4⟩ := app_one (w := u) a2 (by omega) (by simp; omega)
              simp -implicitDefEqProofs (disch := omega) [-List.getElem?_map, e0, e1, e5, e7, e8, e9, ho, hg, hl, he, d1, d2, buildSliceD, a1, b1, Wp_some]
              exact ⟨hj', (b4 0 (by decide)).trans ho', by omega, by rw [outL_at (w := (nm, k, n, sv)) hu hjl he]; exact b2⟩
          · have hl := low_gt hasc hjl hu
            have hne : eqS u.1 nm = false := by
              apply Bool.eq_false_iff.2
              intro h
              unfold eqS at h
              rw [of_decide_eq_true h, lessS_irrefl] at hl
              cases hl
            have d1 : low vs nm < j := hjl
            have d2 : low vs nm < j + 1 := by omega
            obtain ⟨d', h', a1, a2, a3, a4⟩ := app_one (w := u) hvs hnx (by omega)
            simp -implicitDefEqProofs (disch := omega) [-List.getElem?_map, e0, e1, e5, e7, e8, e9, ho, hg, hne, d1, d2, buildSliceD, a1, Wp_some]
            exact ⟨hj', (a4 0 (by decide)).trans ho, by omega, by rw [outL_more (w := (nm, k, n, sv)) hu hjl]; exact a2⟩
        · obtain rfl : j = vs.length := by omega
          simp -implicitDefEqProofs (disch := omega) [e0, e1, e5, e7, e8, e9, hlx, ho, Wp_some]
          exact ⟨hnx, hvs⟩)
      simp only at e1 e5 e7 e8 ho hnx hvs
      rw [← outL_end]
      simp only
      have hol := outL_len vs (nm, k, n, sv) vs.length
      by_cases hl : low vs nm < vs.length
      · simp -implicitDefEqProofs (disch := omega) [e1, e5, e7, e8, hl]
        exact ⟨_, _, ⟨rfl, rfl⟩, hvs⟩
      · obtain ⟨d', h', a1, a2, a3, a4⟩ := app_one (w := (nm, k, n, sv)) hvs hnx (by omega)
        simp -implicitDefEqProofs (disch := omega) [e1, e5, e7, e8, hl, ho, buildSliceD, a1]
        exact ⟨_, _, ⟨rfl, rfl⟩, a2⟩
theorem VS.out {lo : Nat} {h : H} {d : D} {vs : List WV} (hv : VS lo h d vs) : ∃ y, snapOut h d = some (.t y) ∧ Slice y (vs.map varW) := by
  rcases hv with ⟨rfl, rfl⟩ | ⟨id, _, _, rfl, ho⟩
  · exact ⟨.nilSlice, rfl, .nil⟩
  · refine ⟨.slice (vs.map varW), ?_, .mk⟩
    have he : h.els id vs.length = some (34, 4, (vs.map varW).map .t) := by simp [H.els, ho]
    simp only [snapOut, snap_def, snapF_row, he]
    have h3 : (((vs.map varW).map D.t).drop 0).take vs.length = (vs.map varW).map .t := by rw [List.drop_zero, List.take_of_length_le (by simp)]
    simp only [List.length_map, Nat.zero_add, Nat.le_refl, if_true, h3, snapF_map]
    rfl
theorem VA.tree {h : H} {x : T} {vs : List WV} (hx : Slice x (vs.map varW)) : VA h (.t x) vs := ⟨x, hx, rfl, .inl rfl⟩
theorem c25 {c : FuncId} {x : T} {vs : List WV} {w : WV} (h : H) (hx : Slice x (vs.map varW)) (hs : smallW vs) (hn : w.1.size ≤ 1000000000) (hm : md c 25 = .pure) :
    ∃ y, callD (cx.at c) (call cx prim) 25 [.t x, .t (.str w.1), .t (valT w.2.1 w.2.2.1 w.2.2.2)] h = some (.t y, h) ∧ Slice y ((withB vs w).map varW) := by
  obtain ⟨d, h', q, hv⟩ := s25 hx hs hn
  obtain ⟨y, hy, hsl⟩ := hv.out
  exact ⟨y, pureT cb25 hm q hy rfl, hsl⟩
theorem c14 {c : FuncId} {x : T} {vs : List WV} {w : WV} (h : H) (hx : Slice x (vs.map varW)) (hs : smallW vs) (hn : w.1.size ≤ 1000000000) (hm : md c 14 = .pure) :
    ∃ y, callD (cx.at c) (call cx prim) 14 [.t x, .t (.str w.1), .t (valT w.2.1 w.2.2.1 w.2.2.2)] h = some (.t y, h) ∧ Slice y ((withB vs w).map varW) := by
  obtain ⟨d, h', q, hv, _⟩ := s14 (w := w) (VA.tree (h := .empty) hx) hs hn
  obtain ⟨y, hy, hsl⟩ := hv.out
  exact ⟨y, pureT cb14 hm q hy rfl, hsl⟩
end Go.Proofs.YtlcbhhmnfmeoeaaGreatDoor

namespace Go.Proofs.YtlcbhhmnfmeoeaaGreatDoor
open Vai
set_option maxHeartbeats 0
set_option maxRecDepth 100000 in
theorem awake11 : yes (callN cx prim 60 11 [] .empty) = true := by kernel_rfl
theorem c11 {c : FuncId} (h : H) (hm : md c 11 = .pure) : callD (cx.at c) (call cx prim) 11 [] h = some (.t (.bool true), h) := by
  obtain ⟨h', q⟩ := yes_call awake11
  exact pureT cb11 hm q rfl rfl
end Go.Proofs.YtlcbhhmnfmeoeaaGreatDoor

namespace Go.Proofs.YtlcbhhmnfmeoeaaGreatDoor
open Vai
set_option maxHeartbeats 0
theorem lv23 : leaves Tryz.prog 23 = some [.int, .int, .str] := by kernel_rfl
theorem eq_val {k n k' n' : Int} {s s' : ByteArray} (h : H) : binD Tryz.prog h .eql 23 (.t (valT k n s)) (.t (valT k' n' s')) = some (.t (.bool (eqI k k' && (eqI n n' && eqS s s')))) := by
  simp [binD, eqD, lv23, eqCells, eqCell]
theorem ne_val {k n k' n' : Int} {s s' : ByteArray} (h : H) : binD Tryz.prog h .neq 23 (.t (valT k n s)) (.t (valT k' n' s')) = some (.t (.bool (!(eqI k k' && (eqI n n' && eqS s s'))))) := by
  simp [binD, eqD, lv23, eqCells, eqCell]
theorem getT_val (vs : List WV) (nm : ByteArray) : ∃ k n s, getT vs nm = valT k n s := by
  unfold getT
  split
  · exact ⟨_, _, _, rfl⟩
  · exact ⟨_, _, _, rfl⟩
theorem c20 {c : FuncId} {x : T} {vs : List WV} {nm : ByteArray} (h : H) (hx : Slice x (vs.map varW)) (hs : vs.length ≤ 2000000) (hm : md c 20 = .pure) : callD (cx.at c) (call cx prim) 20 [.t x, .t (.str nm)] h = some (.tup [.t (getT vs nm), .t (.bool (getW vs nm).isSome)], h) := by
  obtain ⟨h', q⟩ := s20 (nm := nm) hx hs
  exact pureT cb20 hm q rfl rfl
theorem c21 {c : FuncId} {x : T} {vs : List WV} {nm : ByteArray} (h : H) (hx : Slice x (vs.map varW)) (hs : vs.length ≤ 2000000) (hm : md c 21 = .pure) : callD (cx.at c) (call cx prim) 21 [.t x, .t (.str nm)] h = some (.tup [.t (getT vs nm), .t (.bool (getW vs nm).isSome)], h) := by
  obtain ⟨h', q⟩ := s21 (nm := nm) hx hs
  exact pureT cb21 hm q rfl rfl
theorem c26 {c : FuncId} {x y : T} {vs : List WV} {ds : List DV} (h : H) (hx : Slice x (vs.map varW)) (hy : Slice y (ds.map decT)) (hs : smallW vs) (hd : ds.length ≤ 2000000) (hm : md c 26 = .pure) : callD (cx.at c) (call cx prim) 26 [.t x, .t y] h = some (.t (.bool (fitB vs ds)), h) := by
  obtain ⟨h', q⟩ := s26 hx hy hs hd
  exact pureT cb26 hm q rfl rfl
theorem c27 {c : FuncId} {x y : T} {vs : List WV} {ds : List DV} (h : H) (hx : Slice x (vs.map varW)) (hy : Slice y (ds.map decT)) (hs : smallW vs) (hd : ds.length ≤ 2000000) (hm : md c 27 = .pure) : callD (cx.at c) (call cx prim) 27 [.t x, .t y] h = some (.t (.bool (fitB vs ds)), h) := by
  obtain ⟨h', q⟩ := s27 hx hy hs hd
  exact pureT cb27 hm q rfl rfl
theorem withB_len (vs : List WV) (w : WV) : (withB vs w).length ≤ vs.length + 1 := by
  unfold withB withV
  have := low_le vs w.1
  split
  · simp; omega
  · omega
theorem law7 {x y : T} {vs : List WV} {ds : List DV} {nm : ByteArray} {k n : Int} {sv : ByteArray} (hx : Slice x (vs.map varW)) (hy : Slice y (ds.map decT)) (hs : smallW vs) (hd : ds.length ≤ 2000000) (hn : nm.size ≤ 1000000000) (hl : vs.length ≤ 1900000) :
    ∃ h', call cx prim 7 [.t x, .t (.str nm), .t (valT k n sv), .t y] .empty = some (.t (.bool true), h') := by
  rw [call_run (cx := cx) rfl Tryz.func7 ok7 nd7 rfl (Nat.le_of_ble_eq_true rfl) rfl rfl]
  have q11 := fun h => c11 (c := 7) h rfl
  have q20 := fun h => c20 (c := 7) (nm := nm) h hx hs.1 rfl
  have q21 := fun h => c21 (c := 7) (nm := nm) h hx hs.1 rfl
  have q22 := fun h => c22 (c := 7) (d := .t x) h rfl hx hs rfl
  have q23 := fun h => c23 (c := 7) (d := .t x) h rfl hx hs rfl
  have q26 := fun h => c26 (c := 7) h hx hy hs hd rfl
  have q27 := fun h => c27 (c := 7) h hx hy hs hd rfl
  have hwl := withB_len vs (nm, k, n, sv)
  obtain ⟨d14, h14, e14, v14, _⟩ := s14 (w := (nm, k, n, sv)) (VA.tree (h := .empty) hx) hs hn
  obtain ⟨y14, o14, z14⟩ := v14.out
  have q14 := fun h => pureT (cc := cx.at 7) (h := h) cb14 rfl e14 o14 rfl
  obtain ⟨d25, h25, e25, v25⟩ := s25 (w := (nm, k, n, sv)) hx hs hn
  obtain ⟨y25, o25, z25⟩ := v25.out
  have q25 := fun h => pureT (cc := cx.at 7) (h := h) cb25 rfl e25 o25 rfl
  have q24 := fun h => c24 (c := 7) z14 z25 (by omega) (by omega) h rfl
  simp only at q14 q25
  obtain ⟨k', n', s', hg⟩ := getT_val vs nm
  rw [hg] at q20 q21
  simp -implicitDefEqProofs (disch := omega) [-bin_eql_tagg, q11, q20, q21, q22, q23, q14, q25, q24, q26, q27, eq_val]
end Go.Proofs.YtlcbhhmnfmeoeaaGreatDoor

namespace Go.Proofs.YtlcbhhmnfmeoeaaGreatDoor
open Vai
set_option maxHeartbeats 0
theorem asc_pair {vs : List WV} : Asc vs ↔ vs.Pairwise fun u v => lessS u.1 v.1 = true := by
  rw [List.pairwise_iff_getElem]
  constructor
  · intro h i j hi hj hij
    exact h i j _ _ hij (List.getElem?_eq_getElem hi) (List.getElem?_eq_getElem hj)
  · intro h i j u v hij hu hv
    have hi := (List.getElem?_eq_some_iff.1 hu)
    have hj := (List.getElem?_eq_some_iff.1 hv)
    obtain ⟨hi, rfl⟩ := hi
    obtain ⟨hj, rfl⟩ := hj
    exact h i j hi hj hij
def okV (v : WV) : Bool := nameB v.1 && mayV v.2.1 v.2.2.1 v.2.2.2
theorem varsA_iff {vs : List WV} : varsA vs 0 = true ↔ (∀ v ∈ vs, okV v = true) ∧ Asc vs := by
  constructor
  · intro h
    refine ⟨fun v hv => ?_, asc_of h⟩
    obtain ⟨i, hi⟩ := List.getElem?_of_mem hv
    have := varsA_at _ 0 rfl h i (Nat.zero_le _) (List.getElem?_eq_some_iff.1 hi).1
    simp only [okAt, hi, Bool.and_eq_true] at this
    simp only [okV, Bool.and_eq_true]
    exact this.1
  · rintro ⟨h1, h2⟩
    refine varsA_of _ 0 rfl fun i _ hi => ?_
    have hv : vs[i]? = some vs[i] := List.getElem?_eq_getElem hi
    have h3 := h1 _ (List.mem_of_getElem? hv)
    simp only [okV] at h3
    simp only [okAt, hv, h3, Bool.true_and]
    match i, hi, hv with
    | 0, _, _ => rfl
    | j + 1, hi, hv =>
      have hu : vs[j]? = some (vs[j]'(by omega)) := List.getElem?_eq_getElem _
      simp only [hu]
      exact h2 j (j + 1) _ _ (Nat.lt_succ_self _) hu hv
theorem low_head {A B : List WV} {w : WV} (hA : ∀ v ∈ A, lessS v.1 w.1 = true) : low (A ++ [w] ++ B) w.1 = A.length := by
  unfold low
  rw [List.append_assoc, List.findIdx_append]
  have h1 : A.findIdx (fun u => !lessS u.1 w.1) = A.length := by
    rw [List.findIdx_eq_length]
    intro v hv
    simp [hA v hv]
  rw [h1, if_neg (Nat.lt_irrefl _), List.singleton_append, List.findIdx_cons, lessS_irrefl]
  simp
theorem take_less {vs : List WV} {nm : ByteArray} : ∀ v ∈ vs.take (low vs nm), lessS v.1 nm = true := by
  intro v hv
  obtain ⟨i, hi⟩ := List.getElem?_of_mem hv
  have hlt : i < low vs nm := by
    have := (List.getElem?_eq_some_iff.1 hi).1
    rw [List.length_take] at this
    omega
  rw [List.getElem?_take_of_lt hlt] at hi
  exact low_lt hlt hi
theorem drop_more {vs : List WV} {nm : ByteArray} (ha : Asc vs) : ∀ v ∈ vs.drop (low vs nm + if isAt vs nm then 1 else 0), lessS nm v.1 = true := by
  intro v hv
  obtain ⟨i, hi⟩ := List.getElem?_of_mem hv
  rw [List.getElem?_drop] at hi
  cases h : isAt vs nm with
  | true =>
    rw [h, if_pos rfl] at hi
    exact low_gt ha (by omega) hi
  | false =>
    rw [h] at hi
    simp only [Bool.false_eq_true, if_false, Nat.add_zero] at hi
    cases i with
    | zero =>
      rw [Nat.add_zero] at hi
      have h1 := low_at hi
      unfold isAt at h
      rw [hi] at h
      simp only [eqS, decide_eq_false_iff_not] at h
      rcases lessS_total v.1 nm with h2 | h2 | h2
      · rw [h1] at h2; cases h2
      · exact absurd h2 h
      · exact h2
    | succ i => exact low_gt ha (by omega) hi
theorem with_asc {vs : List WV} {w : WV} (ha : Asc vs) : Asc (withV vs w) := by
  rw [asc_pair] at *
  unfold withV
  rw [List.append_assoc, List.pairwise_append]
  refine ⟨ha.sublist (List.take_sublist _ _), ?_, ?_⟩
  · rw [List.singleton_append, List.pairwise_cons]
    exact ⟨fun v hv => drop_more (asc_pair.2 ha) v hv, ha.sublist (List.drop_sublist _ _)⟩
  · intro u hu v hv
    have h1 := take_less u hu
    rcases List.mem_append.1 hv with hv | hv
    · obtain rfl := List.mem_singleton.1 hv
      exact h1
    · exact lessS_trans h1 (drop_more (asc_pair.2 ha) v hv)
theorem with_low (vs : List WV) (w : WV) : low (withV vs w) w.1 = low vs w.1 := by
  have h := low_head (A := vs.take (low vs w.1)) (B := vs.drop (low vs w.1 + if isAt vs w.1 then 1 else 0)) (w := w) take_less
  have := low_le vs w.1
  rw [List.length_take, Nat.min_eq_left this] at h
  exact h
theorem with_get (vs : List WV) (w : WV) : (withV vs w)[low vs w.1]? = some w := by
  have := low_le vs w.1
  unfold withV
  rw [List.append_assoc, List.getElem?_append_right (by rw [List.length_take]; omega), List.length_take, Nat.min_eq_left this, Nat.sub_self]
  rfl
theorem with_is (vs : List WV) (w : WV) : isAt (withV vs w) w.1 = true := by
  unfold isAt
  rw [with_low, with_get]
  simp [eqS]
theorem with_again (vs : List WV) (w : WV) : withV (withV vs w) w = withV vs w := by
  have hl : low vs w.1 < (withV vs w).length := (List.getElem?_eq_some_iff.1 (with_get vs w)).1
  have h : withV (withV vs w) w = (withV vs w).set (low vs w.1) w := by
    show (withV vs w).take (low (withV vs w) w.1) ++ [w] ++ (withV vs w).drop (low (withV vs w) w.1 + if isAt (withV vs w) w.1 then 1 else 0) = _
    rw [with_is, with_low, List.set_eq_take_append_cons_drop, if_pos hl]
    simp
  rw [h]
  apply List.ext_getElem?
  intro i
  rw [List.getElem?_set]
  split
  · rename_i e
    subst e
    first | rw [with_get] | rw [if_pos hl, with_get]
  · rfl
theorem with_all {vs : List WV} {w : WV} {p : WV → Bool} (h : ∀ v ∈ vs, p v = true) (hw : p w = true) : ∀ v ∈ withV vs w, p v = true := by
  intro v hv
  unfold withV at hv
  rcases List.mem_append.1 hv with hv | hv
  · rcases List.mem_append.1 hv with hv | hv
    · exact h v (List.mem_of_mem_take hv)
    · obtain rfl := List.mem_singleton.1 hv; exact hw
  · exact h v (List.mem_of_mem_drop hv)
theorem find_none {A : List WV} {nm : ByteArray} (h : ∀ v ∈ A, lessS v.1 nm = true) : A.find? (fun v => eqS v.1 nm) = none := by
  rw [List.find?_eq_none]
  intro v hv e
  have h1 := h v hv
  rw [of_decide_eq_true (by simpa [eqS] using e : decide (v.1 = nm) = true), lessS_irrefl] at h1
  cases h1
theorem with_find (vs : List WV) (w : WV) : getW (withV vs w) w.1 = some w := by
  unfold getW withV
  rw [List.append_assoc, List.find?_append, find_none take_less, List.singleton_append, List.find?_cons]
  simp [eqS]
theorem with_other {vs : List WV} {w : WV} {o : ByteArray} (ho : ¬ o = w.1) : getW (withV vs w) o = getW vs o := by
  unfold getW withV
  have hw : ∀ B : List WV, List.find? (fun v => eqS v.1 o) (w :: B) = B.find? fun v => eqS v.1 o := fun B => by
    rw [List.find?_cons]
    have : eqS w.1 o = false := by simp [eqS]; exact fun e => ho e.symm
    rw [this]
  have hlow := low_le vs w.1
  cases h : isAt vs w.1 with
  | false =>
    simp only [Bool.false_eq_true, if_false, Nat.add_zero]
    rw [List.append_assoc, List.find?_append, List.singleton_append, hw]
    conv => rhs; rw [← List.take_append_drop (low vs w.1) vs, List.find?_append]
  | true =>
    unfold isAt at h
    split at h
    · rename_i u hu
      have hlt := (List.getElem?_eq_some_iff.1 hu).1
      have hun : u.1 = w.1 := by simpa [eqS] using h
      simp only [if_true]
      rw [List.append_assoc, List.find?_append, List.singleton_append, hw]
      conv => rhs; rw [← List.take_append_drop (low vs w.1) vs, List.find?_append, List.drop_eq_getElem_cons hlt]
      have hu' : vs[low vs w.1] = u := by rw [List.getElem?_eq_getElem hlt] at hu; exact Option.some.inj hu
      rw [hu', List.find?_cons]
      have : eqS u.1 o = false := by rw [hun]; simp [eqS]; exact fun e => ho e.symm
      rw [this]
    · cases h
theorem fit_self {m : List WV} (h : ∀ v ∈ m, okV v = true) : fitB m (m.map fun v => (v.1, v.2.1)) = true := by
  unfold fitB
  rw [List.length_map, decide_eq_true rfl, Bool.true_and]
  have key : ∀ (n k : Nat), n = m.length - k → fitA m (m.map fun v => (v.1, v.2.1)) k = true := by
    intro n
    induction n with
    | zero => intro k hk; exact fitA_over (by omega)
    | succ n ih =>
      intro k hk
      have hlt : k < m.length := by omega
      have hv : m[k]? = some m[k] := List.getElem?_eq_getElem hlt
      rw [fitA_step hv (d := (m[k].1, m[k].2.1)) (by rw [List.getElem?_map, hv]; rfl), ih (k + 1) (by omega)]
      have h1 := h _ (List.mem_of_getElem? hv)
      simp only [okV, Bool.and_eq_true] at h1
      simp [fit1, h1.2, eqS]
  exact key _ 0 rfl
end Go.Proofs.YtlcbhhmnfmeoeaaGreatDoor

namespace Go.Proofs.YtlcbhhmnfmeoeaaGreatDoor
open Vai
set_option maxHeartbeats 0
theorem c26' {c : FuncId} {x y : T} {d : D} {vs : List WV} {ds : List DV} (h : H) (hx : Slice x (vs.map varW)) (hd' : snap h d = some y) (hy : Slice y (ds.map decT)) (hs : smallW vs) (hd : ds.length ≤ 2000000) (hm : md c 26 = .pure) : callD (cx.at c) (call cx prim) 26 [.t x, d] h = some (.t (.bool (fitB vs ds)), h) := by
  obtain ⟨h', q⟩ := s26 hx hy hs hd
  exact pureOut_flat (ts := [x, y]) cb26 hm (by simp only [allM, hd']; rfl) q rfl rfl
abbrev dcl (v : WV) : DV := (v.1, v.2.1)
theorem l8 {m : List WV} (hm : m.length ≤ 1900000) {st : St} {r : CR} (hLp : loopω (LB cx prim 8 Tryz.f8 0) st = r) (en : st.n = 131) (e9 : st.env 9 = .t (.slice (m.map varW))) (e16 : st.env 16 = .t .nilSlice) (e17 : st.env 17 = .t (.int .i64 0)) {a1 a6 : D} (e1 : st.env 1 = a1) (e6 : st.env 6 = a6) :
    ∃ st', r = some (.exit 0, st') ∧ st'.n = 131 ∧ st'.env 9 = .t (.slice (m.map varW)) ∧ st'.env 1 = a1 ∧ st'.env 6 = a6 ∧ st'.env 16 = (nrow 45 2 (m.map fun v => decT (dcl v)) st.h).1 ∧ st'.h = (nrow 45 2 (m.map fun v => decT (dcl v)) st.h).2 := by
  obtain ⟨x', ⟨nn, env, h2⟩, rfl, rfl, hq⟩ := loop_uses hLp m.length
    (fun j s => s.n = 131 ∧ s.env 9 = .t (.slice (m.map varW)) ∧ s.env 1 = a1 ∧ s.env 6 = a6 ∧ s.env 17 = .t (.int .i64 j) ∧ s.env 16 = (nrow 45 2 ((m.take j).map fun v => decT (dcl v)) st.h).1 ∧ s.h = (nrow 45 2 ((m.take j).map fun v => decT (dcl v)) st.h).2)
    (fun x' s => x' = .exit 0 ∧ s.n = 131 ∧ s.env 9 = .t (.slice (m.map varW)) ∧ s.env 1 = a1 ∧ s.env 6 = a6 ∧ s.env 16 = (nrow 45 2 (m.map fun v => decT (dcl v)) st.h).1 ∧ s.h = (nrow 45 2 (m.map fun v => decT (dcl v)) st.h).2)
    ⟨en, e9, e1, e6, e17, by simpa [nrow] using e16, by simp [nrow]⟩ (by
    generalize st.h = h0
    clear hLp e1 e6 e9 e16 e17
    rintro j ⟨nn, env, h2⟩ hj ⟨rfl, e9, e1, e6, e17, e16, rfl⟩
    simp only at e9 e1 e6 e17 e16
    rw [LB_run nd8 rfl]
    by_cases hj' : j < m.length
    · obtain ⟨v, hv⟩ : ∃ v, m[j]? = some v := ⟨m[j], by simp [hj']⟩
      have hg : (m.map varW)[j]? = some (varW v) := by rw [List.getElem?_map, hv]; rfl
      have c1 : (j : Int) < m.length := by omega
      have happ := append_new (P := Tryz.prog) (h := h0) (t := 38) (x := .t (.slice [decT (dcl v)])) (xs := (m.take j).map fun v => decT (dcl v)) (ys := [decT (dcl v)]) tk38 sz45 byt45 zero45 rfl (by decide) rfl rfl (by simp; omega) (by simp; omega)
      have hnx : ((m.take (j + 1)).map fun v => decT (dcl v)) = ((m.take j).map fun v => decT (dcl v)) ++ [decT (dcl v)] := by
        rw [List.take_add_one, hv]
        simp
      generalize hN : nrow 45 2 ((m.take j).map fun v => decT (dcl v)) h0 = N at happ e16 ⊢
      rw [← hnx] at happ
      generalize hN2 : nrow 45 2 ((m.take (j + 1)).map fun v => decT (dcl v)) h0 = N2 at happ ⊢
      obtain ⟨n1, n2⟩ := N
      obtain ⟨m1, m2⟩ := N2
      simp only at happ e16
      simp -implicitDefEqProofs (disch := omega) [-List.getElem?_map, e9, e1, e6, e17, e16, hg, litSliceD, happ, Wp_some]
      exact hj'
    · obtain rfl : j = m.length := by omega
      rw [List.take_length] at e16
      simp -implicitDefEqProofs (disch := omega) [e9, e1, e6, e17, e16, Wp_some])
  exact ⟨_, rfl, hq⟩
theorem law8 {x : T} {vs : List WV} {nm ot : ByteArray} {k n : Int} {sv : ByteArray} (hx : Slice x (vs.map varW)) (hs : smallW vs) (hn : nm.size ≤ 1000000000) (hsv : sv.size ≤ 1000000000) (hl : vs.length ≤ 1800000) :
    ∃ h', call cx prim 8 [.t x, .t (.str nm), .t (valT k n sv), .t (.str ot)] .empty = some (.t (.bool true), h') := by
  rw [call_run (cx := cx) rfl Tryz.func8 ok8 nd8 rfl (Nat.le_of_ble_eq_true rfl) rfl rfl]
  have q11 := fun h => c11 (c := 8) h rfl
  have q22 := fun h => c22 (c := 8) (d := .t x) h rfl hx hs rfl
  have q17 := fun h => c17 (c := 8) nm h hn rfl
  have q13 := fun h => c13 (c := 8) k n sv h hsv rfl
  cases hv : varsB vs with
  | false =>
    rw [hv] at q22
    simp -implicitDefEqProofs (disch := omega) [q11, q22]
  | true =>
  rw [hv] at q22
  cases hnm : nameB nm with
  | false =>
    rw [hnm] at q17
    simp -implicitDefEqProofs (disch := omega) [q11, q22, q17]
  | true =>
  rw [hnm] at q17
  cases hmay : mayV k n sv with
  | false =>
    rw [hmay] at q13
    simp -implicitDefEqProofs (disch := omega) [q11, q22, q17, q13]
  | true =>
  rw [hmay] at q13
  -- what comes of it
  have hvs := varsA_iff.1 (by unfold varsB at hv; rw [Bool.and_eq_true] at hv; exact hv.1)
  have hwB : withB vs (nm, k, n, sv) = withV vs (nm, k, n, sv) := by unfold withB; rw [hv, hnm]; rfl
  obtain ⟨m, hm⟩ : ∃ m, m = withV vs (nm, k, n, sv) := ⟨_, rfl⟩
  have hml : m.length ≤ vs.length + 1 := by rw [hm, ← hwB]; exact withB_len _ _
  have hmok : ∀ v ∈ m, okV v = true := by rw [hm]; exact with_all hvs.1 (by simp [okV, hnm, hmay])
  have hmasc : Asc m := by rw [hm]; exact with_asc hvs.2
  have hmA : varsA m 0 = true := varsA_iff.2 ⟨hmok, hmasc⟩
  have hmB : m.length ≤ 16 → varsB m = true := fun h => by unfold varsB; rw [hmA, decide_eq_true h]; rfl
  have hmg : getW m nm = some (nm, k, n, sv) := by rw [hm]; exact with_find vs (nm, k, n, sv)
  have hmT : getT m nm = valT k n sv := by unfold getT; rw [hmg]
  have hmS : smallW m := by
    refine ⟨by omega, ?_⟩
    have h1 : ∀ v ∈ vs, (decide (v.1.size ≤ 1000000000) && decide (v.2.2.2.size ≤ 1000000000)) = true := fun v hv => by
      have := hs.2 v hv
      simp [this]
    have h2 := with_all (w := (nm, k, n, sv)) h1 (by simp [hn, hsv])
    rw [hm]
    intro v hv
    have := h2 v hv
    simpa using this
  have hmot : ¬ ot = nm → getW m ot = getW vs ot := fun h => by rw [hm]; exact with_other h
  have hmag : withB m (nm, k, n, sv) = m := by
    unfold withB
    split
    · rw [hm]; exact with_again _ _
    · rfl
  have hmne : m ≠ [] := fun e => by rw [e] at hmg; cases hmg
  obtain ⟨d14, h14, e14, v14, _⟩ := s14 (w := (nm, k, n, sv)) (VA.tree (h := .empty) hx) hs hn
  rw [hwB, ← hm] at v14
  obtain ⟨y, o14, z14⟩ := v14.out
  have hy : y = .slice (m.map varW) := z14.eq_of_ne (by simpa using hmne)
  subst hy
  have q14 := fun h => pureT (cc := cx.at 8) (h := h) cb14 rfl e14 o14 rfl
  have q20 := fun h => c20 (c := 8) (nm := nm) h (Slice.mk (es := m.map varW)) hmS.1 rfl
  rw [hmT, hmg] at q20
  have q20v := fun h => c20 (c := 8) (nm := ot) h hx hs.1 rfl
  have q20m := fun h => c20 (c := 8) (nm := ot) h (Slice.mk (es := m.map varW)) hmS.1 rfl
  have q22m := fun h => c22 (c := 8) (d := .t (.slice (m.map varW))) h rfl Slice.mk hmS rfl
  have hlx := fun hh => hx.len (P := Tryz.prog) (t := 31) tk31 hh
  rw [List.length_map] at hlx
  obtain ⟨d2, h2, e2, v2, _⟩ := s14 (w := (nm, k, n, sv)) (VA.tree (h := .empty) (Slice.mk (es := m.map varW))) hmS hn
  rw [hmag] at v2
  obtain ⟨y2, o2, z2⟩ := v2.out
  have q14m := fun h => pureT (cc := cx.at 8) (h := h) cb14 rfl e2 o2 rfl
  have q24 := fun h => c24 (c := 8) z2 (Slice.mk (es := m.map varW)) (by omega) (by omega) h rfl
  simp only at q14 q14m q20
  have q26 := fun (h : H) (d : D) (y' : T) hd hy => c26' (c := 8) (x := .slice (m.map varW)) (d := d) (y := y') (ds := m.map dcl) h Slice.mk hd hy hmS (by simp; omega) rfl
  rw [fit_self hmok] at q26
  have hfit : ∀ h0 : H, snap (nrow 45 2 (m.map fun v => decT (dcl v)) h0).2 (nrow 45 2 (m.map fun v => decT (dcl v)) h0).1 = some (sl (m.map fun v => decT (dcl v))) := fun h0 => snap_new
  have hsl : Slice (sl (m.map fun v => decT (dcl v))) ((m.map dcl).map decT) := by
    have := sl_slice (m.map fun v => decT (dcl v))
    rwa [List.map_map]
  obtain ⟨kg, ng, sg, hg⟩ := getT_val vs ot
  have fin : ∀ (r : CR) (st : St), loopω (LB cx prim 8 Tryz.f8 0) st = r → st.n = 131 → st.env 9 = .t (.slice (m.map varW)) → st.env 16 = .t .nilSlice → st.env 17 = .t (.int .i64 0) → st.env 1 = .t (.str nm) → st.env 6 = .ptr 0 0 0 1 → st.h.objs 0 = some (.row 23 3 [.t (valT k n sv)]) → 0 < st.h.next →
      ∃ (env : Nat → D) (h : H) (d : D), r = some (.exit 0, ⟨131, env, h⟩) ∧ env 9 = .t (.slice (m.map varW)) ∧ env 16 = d ∧ env 1 = .t (.str nm) ∧ env 6 = .ptr 0 0 0 1 ∧ h.objs 0 = some (.row 23 3 [.t (valT k n sv)]) ∧ callD (cx.at 8) (call cx prim) 26 [.t (.slice (m.map varW)), d] h = some (.t (.bool true), h) := by
    intro r st hLp en e9 e16 e17 e1 e6 ho hnx
    obtain ⟨⟨nn, env, h⟩, rfl, rfl, e9', e1', e6', e16', rfl⟩ := l8 (by omega) hLp en e9 e16 e17 e1 e6
    refine ⟨env, _, _, rfl, e9', e16', e1', e6', ?_, q26 _ _ _ (hfit st.h) hsl⟩
    unfold nrow
    split
    · exact ho
    · have : ¬ 0 = st.h.next := by omega
      simp [this, ho]
  clear hfit hsl q26
  by_cases c16 : m.length ≤ 16
  · have q22b := hmB c16
    rw [q22b] at q22m
    by_cases hot : ot = nm
    · subst hot
      simp -implicitDefEqProofs (disch := omega) [-bin_eql_tagg, -bin_neq_tagg, q11, q22, q17, q13, q14, q20, q22m, hlx, eq_val, ne_val]
      generalize hLp : loopω _ _ = L
      obtain ⟨env, h, d, rfl, e9, e16, e1, e6, ho, q26⟩ := fin L _ hLp rfl (by simp) (by simp) (by simp) (by simp) (by simp) (by simp) (by simp)
      simp -implicitDefEqProofs (disch := omega) [e9, e16, e1, e6, ho, q26, q14m, q24]
    · have heq := hmot hot
      have hgm : getT m ot = valT kg ng sg := by unfold getT at hg ⊢; rw [heq]; exact hg
      rw [hg] at q20v
      rw [hgm, heq] at q20m
      have hne : eqS ot nm = false := by simp [eqS, hot]
      simp -implicitDefEqProofs (disch := omega) [-bin_eql_tagg, -bin_neq_tagg, q11, q22, q17, q13, q14, q20, q22m, hlx, eq_val, ne_val, hne, q20v, q20m]
      generalize hLp : loopω _ _ = L
      obtain ⟨env, h, d, rfl, e9, e16, e1, e6, ho, q26⟩ := fin L _ hLp rfl (by simp) (by simp) (by simp) (by simp) (by simp) (by simp) (by simp)
      simp -implicitDefEqProofs (disch := omega) [e9, e16, e1, e6, ho, q26, q14m, q24]
  · by_cases hot : ot = nm
    · subst hot
      simp -implicitDefEqProofs (disch := omega) [-bin_eql_tagg, -bin_neq_tagg, q11, q22, q17, q13, q14, q20, hlx, eq_val, ne_val]
      generalize hLp : loopω _ _ = L
      obtain ⟨env, h, d, rfl, e9, e16, e1, e6, ho, q26⟩ := fin L _ hLp rfl (by simp) (by simp) (by simp) (by simp) (by simp) (by simp) (by simp)
      simp -implicitDefEqProofs (disch := omega) [e9, e16, e1, e6, ho, q26]
    · have heq := hmot hot
      have hgm : getT m ot = valT kg ng sg := by unfold getT at hg ⊢; rw [heq]; exact hg
      rw [hg] at q20v
      rw [hgm, heq] at q20m
      have hne : eqS ot nm = false := by simp [eqS, hot]
      simp -implicitDefEqProofs (disch := omega) [-bin_eql_tagg, -bin_neq_tagg, q11, q22, q17, q13, q14, q20, hlx, eq_val, ne_val, hne, q20v, q20m]
      generalize hLp : loopω _ _ = L
      obtain ⟨env, h, d, rfl, e9, e16, e1, e6, ho, q26⟩ := fin L _ hLp rfl (by simp) (by simp) (by simp) (by simp) (by simp) (by simp) (by simp)
      simp -implicitDefEqProofs (disch := omega) [e9, e16, e1, e6, ho, q26]
end Go.Proofs.YtlcbhhmnfmeoeaaGreatDoor

/-
  What strconv.ParseInt, strconv.FormatInt and strings.Compare answer: out of the library's own proofs of them, at this program's numbers.
-/
namespace Go.Proofs.YtlcbhhmnfmeoeaaGreatDoor
open Vai
open Go.RowKit (Below)
def lays29_ren : Go.Shelf.Ren := ⟨fun | 174 => 29 | 247 => 45 | 245 => 46 | 287 => 58 | 279 => 59 | 280 => 60 | 281 => 61 | 282 => 62 | 321 => 76 | 322 => 77 | 316 => 78 | 171 => 80 | 205 => 79 | 243 => 95 | 246 => 47 | 283 => 63 | 284 => 64 | 285 => 65 | 286 => 66 | 129 => 82 | 317 => 81 | 318 => 83 | 319 => 84 | 320 => 85 | 337 => 96 | 338 => 97 | n => n, fun | 9 => 9 | 3 => 3 | 2 => 2 | 75 => 50 | 85 => 51 | 4 => 4 | 167 => 96 | 5 => 5 | 53 => 72 | 175 => 97 | 46 => 61 | 168 => 99 | 37 => 56 | 0 => 0 | 210 => 114 | 21 => 21 | 127 => 140 | 145 => 143 | 143 => 141 | 171 => 103 | 173 => 106 | 212 => 118 | 51 => 77 | 20 => 20 | 213 => 119 | 232 => 159 | 233 => 160 | 80 => 176 | n => n, fun | 15 => 1 | 16 => 2 | 17 => 3 | 18 => 4 | 19 => 5 | n => n⟩
theorem lays29 : Go.Proofs.LaysC.n174 Tryz.prog lays29_ren where
  mixed := by kernel_rfl
  f129 := Tryz.func82.trans (congrArg some (by kernel_rfl))
  f171 := Tryz.func80.trans (congrArg some (by kernel_rfl))
  f174 := Tryz.func29.trans (congrArg some (by kernel_rfl))
  f205 := Tryz.func79.trans (congrArg some (by kernel_rfl))
  f243 := Tryz.func95.trans (congrArg some (by kernel_rfl))
  f245 := Tryz.func46.trans (congrArg some (by kernel_rfl))
  f246 := Tryz.func47.trans (congrArg some (by kernel_rfl))
  f247 := Tryz.func45.trans (congrArg some (by kernel_rfl))
  f279 := Tryz.func59.trans (congrArg some (by kernel_rfl))
  f280 := Tryz.func60.trans (congrArg some (by kernel_rfl))
  f281 := Tryz.func61.trans (congrArg some (by kernel_rfl))
  f282 := Tryz.func62.trans (congrArg some (by kernel_rfl))
  f283 := Tryz.func63.trans (congrArg some (by kernel_rfl))
  f284 := Tryz.func64.trans (congrArg some (by kernel_rfl))
  f285 := Tryz.func65.trans (congrArg some (by kernel_rfl))
  f286 := Tryz.func66.trans (congrArg some (by kernel_rfl))
  f287 := Tryz.func58.trans (congrArg some (by kernel_rfl))
  f316 := Tryz.func78.trans (congrArg some (by kernel_rfl))
  f317 := Tryz.func81.trans (congrArg some (by kernel_rfl))
  f318 := Tryz.func83.trans (congrArg some (by kernel_rfl))
  f319 := Tryz.func84.trans (congrArg some (by kernel_rfl))
  f320 := Tryz.func85.trans (congrArg some (by kernel_rfl))
  f321 := Tryz.func76.trans (congrArg some (by kernel_rfl))
  f322 := Tryz.func77.trans (congrArg some (by kernel_rfl))
  f337 := Tryz.func96.trans (congrArg some (by kernel_rfl))
  f338 := Tryz.func97.trans (congrArg some (by kernel_rfl))
  t0 := Tryz.underlying0
  a0 := Tryz.isAgg0
  z0 := Tryz.sizeOf0
  v0 := Tryz.zeroValue0
  t2 := Tryz.underlying2
  a2 := Tryz.isAgg2
  z2 := Tryz.sizeOf2
  v2 := Tryz.zeroValue2
  t3 := Tryz.underlying3
  a3 := Tryz.isAgg3
  z3 := Tryz.sizeOf3
  v3 := Tryz.zeroValue3
  t4 := Tryz.underlying4
  a4 := Tryz.isAgg4
  z4 := Tryz.sizeOf4
  v4 := Tryz.zeroValue4
  t5 := Tryz.underlying5
  a5 := Tryz.isAgg5
  z5 := Tryz.sizeOf5
  v5 := Tryz.zeroValue5
  t9 := Tryz.underlying9
  a9 := Tryz.isAgg9
  z9 := Tryz.sizeOf9
  v9 := Tryz.zeroValue9
  t20 := Tryz.underlying20
  a20 := Tryz.isAgg20
  z20 := Tryz.sizeOf20
  v20 := Tryz.zeroValue20
  t21 := Tryz.underlying21
  a21 := Tryz.isAgg21
  z21 := Tryz.sizeOf21
  v21 := Tryz.zeroValue21
  t37 := Tryz.underlying56
  a37 := Tryz.isAgg56
  z37 := Tryz.sizeOf56
  v37 := Tryz.zeroValue56
  t46 := Tryz.underlying61
  a46 := Tryz.isAgg61
  z46 := Tryz.sizeOf61
  v46 := Tryz.zeroValue61
  t51 := Tryz.underlying77
  a51 := Tryz.isAgg77
  z51 := Tryz.sizeOf77
  v51 := Tryz.zeroValue77
  t53 := Tryz.underlying72
  a53 := Tryz.isAgg72
  z53 := Tryz.sizeOf72
  v53 := Tryz.zeroValue72
  t75 := Tryz.underlying50
  a75 := Tryz.isAgg50
  z75 := Tryz.sizeOf50
  v75 := Tryz.zeroValue50
  t85 := Tryz.underlying51
  a85 := Tryz.isAgg51
  z85 := Tryz.sizeOf51
  v85 := Tryz.zeroValue51
  t127 := Tryz.underlying140
  a127 := Tryz.isAgg140
  z127 := Tryz.sizeOf140
  v127 := Tryz.zeroValue140
  t143 := Tryz.underlying141
  a143 := Tryz.isAgg141
  z143 := Tryz.sizeOf141
  v143 := Tryz.zeroValue141
  t145 := Tryz.underlying143
  a145 := Tryz.isAgg143
  z145 := Tryz.sizeOf143
  v145 := Tryz.zeroValue143
  t167 := Tryz.underlying96
  a167 := Tryz.isAgg96
  z167 := Tryz.sizeOf96
  v167 := Tryz.zeroValue96
  t168 := Tryz.underlying99
  a168 := Tryz.isAgg99
  z168 := Tryz.sizeOf99
  v168 := Tryz.zeroValue99
  t171 := Tryz.underlying103
  a171 := Tryz.isAgg103
  z171 := Tryz.sizeOf103
  v171 := Tryz.zeroValue103
  t173 := Tryz.underlying106
  a173 := Tryz.isAgg106
  z173 := Tryz.sizeOf106
  v173 := Tryz.zeroValue106
  t175 := Tryz.underlying97
  a175 := Tryz.isAgg97
  z175 := Tryz.sizeOf97
  v175 := Tryz.zeroValue97
  t210 := Tryz.underlying114
  a210 := Tryz.isAgg114
  z210 := Tryz.sizeOf114
  v210 := Tryz.zeroValue114
  t212 := Tryz.underlying118
  a212 := Tryz.isAgg118
  z212 := Tryz.sizeOf118
  v212 := Tryz.zeroValue118
  t213 := Tryz.underlying119
  a213 := Tryz.isAgg119
  z213 := Tryz.sizeOf119
  t232 := Tryz.underlying159
  a232 := Tryz.isAgg159
  z232 := Tryz.sizeOf159
  v232 := Tryz.zeroValue159
  t233 := Tryz.underlying160
  a233 := Tryz.isAgg160
  z233 := Tryz.sizeOf160
  v233 := Tryz.zeroValue160
  g15 := by kernel_rfl
  g16 := by kernel_rfl
  g17 := by kernel_rfl
  g18 := by kernel_rfl
  g19 := by kernel_rfl
  t80 := Tryz.underlying176
  a80 := Tryz.isAgg176
  z80 := Tryz.sizeOf176
  v80 := Tryz.zeroValue176
  i0 := by kernel_rfl
  i2 := by kernel_rfl
  i3 := by kernel_rfl
  i4 := by kernel_rfl
  i5 := by kernel_rfl
  i9 := by kernel_rfl
  i20 := by kernel_rfl
  i21 := by kernel_rfl
  i37 := by kernel_rfl
  i46 := by kernel_rfl
  i51 := by kernel_rfl
  i53 := by kernel_rfl
  i75 := by kernel_rfl
  i80 := by kernel_rfl
  i85 := by kernel_rfl
  i127 := by kernel_rfl
  i143 := by kernel_rfl
  i145 := by kernel_rfl
  i167 := by kernel_rfl
  i168 := by kernel_rfl
  i171 := by kernel_rfl
  i173 := by kernel_rfl
  i175 := by kernel_rfl
  i210 := by kernel_rfl
  i212 := by kernel_rfl
  i232 := by kernel_rfl
  i233 := by kernel_rfl
  m15 := by kernel_rfl
  m16 := by kernel_rfl
  m17 := by kernel_rfl
  m18 := by kernel_rfl
  m19 := by kernel_rfl
  c0 := by kernel_rfl
  c2 := by kernel_rfl
  c3 := by kernel_rfl
  c4 := by kernel_rfl
  c5 := by kernel_rfl
  c9 := by kernel_rfl
  c20 := by kernel_rfl
  c21 := by kernel_rfl
  c37 := by kernel_rfl
  c46 := by kernel_rfl
  c51 := by kernel_rfl
  c53 := by kernel_rfl
  c75 := by kernel_rfl
  c80 := by kernel_rfl
  c85 := by kernel_rfl
  c127 := by kernel_rfl
  c143 := by kernel_rfl
  c145 := by kernel_rfl
  c167 := by kernel_rfl
  c168 := by kernel_rfl
  c171 := by kernel_rfl
  c173 := by kernel_rfl
  c175 := by kernel_rfl
  c210 := by kernel_rfl
  c212 := by kernel_rfl
  c213 := by kernel_rfl
  c232 := by kernel_rfl
  c233 := by kernel_rfl
def lays30_ren : Go.Shelf.Ren := ⟨fun | 173 => 30 | 246 => 47 | 283 => 63 | 284 => 64 | 285 => 65 | 286 => 66 | 129 => 82 | 317 => 81 | 318 => 83 | 319 => 84 | 320 => 85 | 337 => 96 | 338 => 97 | n => n, fun | 2 => 2 | 3 => 3 | 9 => 9 | 4 => 4 | 171 => 103 | 0 => 0 | 53 => 72 | 37 => 56 | 5 => 5 | 173 => 106 | 212 => 118 | 51 => 77 | 20 => 20 | 213 => 119 | 46 => 61 | 232 => 159 | 233 => 160 | n => n, fun | 17 => 3 | 18 => 4 | 19 => 5 | n => n⟩
theorem lays30 : Go.Proofs.LaysM.n173 Tryz.prog lays30_ren where
  mixed := by kernel_rfl
  f129 := Tryz.func82.trans (congrArg some (by kernel_rfl))
  f173 := Tryz.func30.trans (congrArg some (by kernel_rfl))
  f246 := Tryz.func47.trans (congrArg some (by kernel_rfl))
  f283 := Tryz.func63.trans (congrArg some (by kernel_rfl))
  f284 := Tryz.func64.trans (congrArg some (by kernel_rfl))
  f285 := Tryz.func65.trans (congrArg some (by kernel_rfl))
  f286 := Tryz.func66.trans (congrArg some (by kernel_rfl))
  f317 := Tryz.func81.trans (congrArg some (by kernel_rfl))
  f318 := Tryz.func83.trans (congrArg some (by kernel_rfl))
  f319 := Tryz.func84.trans (congrArg some (by kernel_rfl))
  f320 := Tryz.func85.trans (congrArg some (by kernel_rfl))
  f337 := Tryz.func96.trans (congrArg some (by kernel_rfl))
  f338 := Tryz.func97.trans (congrArg some (by kernel_rfl))
  t0 := Tryz.underlying0
  a0 := Tryz.isAgg0
  z0 := Tryz.sizeOf0
  v0 := Tryz.zeroValue0
  t2 := Tryz.underlying2
  a2 := Tryz.isAgg2
  z2 := Tryz.sizeOf2
  v2 := Tryz.zeroValue2
  t3 := Tryz.underlying3
  a3 := Tryz.isAgg3
  z3 := Tryz.sizeOf3
  v3 := Tryz.zeroValue3
  t4 := Tryz.underlying4
  a4 := Tryz.isAgg4
  z4 := Tryz.sizeOf4
  v4 := Tryz.zeroValue4
  t5 := Tryz.underlying5
  a5 := Tryz.isAgg5
  z5 := Tryz.sizeOf5
  v5 := Tryz.zeroValue5
  t9 := Tryz.underlying9
  a9 := Tryz.isAgg9
  z9 := Tryz.sizeOf9
  v9 := Tryz.zeroValue9
  t20 := Tryz.underlying20
  a20 := Tryz.isAgg20
  z20 := Tryz.sizeOf20
  v20 := Tryz.zeroValue20
  t37 := Tryz.underlying56
  a37 := Tryz.isAgg56
  z37 := Tryz.sizeOf56
  v37 := Tryz.zeroValue56
  t46 := Tryz.underlying61
  a46 := Tryz.isAgg61
  z46 := Tryz.sizeOf61
  v46 := Tryz.zeroValue61
  t51 := Tryz.underlying77
  a51 := Tryz.isAgg77
  z51 := Tryz.sizeOf77
  v51 := Tryz.zeroValue77
  t53 := Tryz.underlying72
  a53 := Tryz.isAgg72
  z53 := Tryz.sizeOf72
  v53 := Tryz.zeroValue72
  t171 := Tryz.underlying103
  a171 := Tryz.isAgg103
  z171 := Tryz.sizeOf103
  v171 := Tryz.zeroValue103
  t173 := Tryz.underlying106
  a173 := Tryz.isAgg106
  z173 := Tryz.sizeOf106
  v173 := Tryz.zeroValue106
  t212 := Tryz.underlying118
  a212 := Tryz.isAgg118
  z212 := Tryz.sizeOf118
  v212 := Tryz.zeroValue118
  t213 := Tryz.underlying119
  a213 := Tryz.isAgg119
  z213 := Tryz.sizeOf119
  t232 := Tryz.underlying159
  a232 := Tryz.isAgg159
  z232 := Tryz.sizeOf159
  v232 := Tryz.zeroValue159
  t233 := Tryz.underlying160
  a233 := Tryz.isAgg160
  z233 := Tryz.sizeOf160
  v233 := Tryz.zeroValue160
  g17 := by kernel_rfl
  g18 := by kernel_rfl
  g19 := by kernel_rfl
  i0 := by kernel_rfl
  i2 := by kernel_rfl
  i3 := by kernel_rfl
  i4 := by kernel_rfl
  i5 := by kernel_rfl
  i9 := by kernel_rfl
  i20 := by kernel_rfl
  i37 := by kernel_rfl
  i46 := by kernel_rfl
  i51 := by kernel_rfl
  i53 := by kernel_rfl
  i171 := by kernel_rfl
  i173 := by kernel_rfl
  i212 := by kernel_rfl
  i232 := by kernel_rfl
  i233 := by kernel_rfl
  m17 := by kernel_rfl
  m18 := by kernel_rfl
  m19 := by kernel_rfl
def lays39_ren : Go.Shelf.Ren := ⟨fun | 106 => 39 | 213 => 53 | 265 => 72 | n => n, fun | 9 => 9 | 3 => 3 | n => n, fun | n => n⟩
theorem lays39 : Go.Proofs.Lays.n106 Tryz.prog lays39_ren where
  mixed := by kernel_rfl
  f106 := Tryz.func39.trans (congrArg some (by kernel_rfl))
  f213 := Tryz.func53.trans (congrArg some (by kernel_rfl))
  f265 := Tryz.func72.trans (congrArg some (by kernel_rfl))
  t3 := Tryz.underlying3
  a3 := Tryz.isAgg3
  z3 := Tryz.sizeOf3
  v3 := Tryz.zeroValue3
  t9 := Tryz.underlying9
  a9 := Tryz.isAgg9
  z9 := Tryz.sizeOf9
  v9 := Tryz.zeroValue9
/-- strconv.ErrSyntax and strconv.ErrRange hold an error, or nil. -/
def errOK (w : World) (g : Nat) : Prop := ∃ ev : Value, w.cell? ⟨g, 0, none⟩ = some ev ∧ (ev = .nilIface ∨ ∃ te pe, ev = .iface te pe)
theorem glob3 : Tryz.prog.globalNamed "internal/strconv.uint64pow10" = some 3 := by kernel_rfl
theorem tab_stay {w w' : World} (h : w'.heap[3]? = w.heap[3]?) (ht : Lib.TabIs Tryz.prog w "internal/strconv.uint64pow10" .u64 Lib.pow10Tab) : Lib.TabIs Tryz.prog w' "internal/strconv.uint64pow10" .u64 Lib.pow10Tab := by
  unfold Lib.TabIs World.var? at ht ⊢
  rw [glob3] at ht ⊢
  simp only [Option.bind_some] at ht ⊢
  rw [h]
  exact ht
instance glD : Gl where
  blk k := k = 1 ∨ k = 2 ∨ k = 3
  ok w := (errOK w 1 ∧ errOK w 2) ∧ Lib.TabIs Tryz.prog w "internal/strconv.uint64pow10" .u64 Lib.pow10Tab
  stay w w' h ho := by
    refine ⟨⟨ho.1.1.elim fun ev he => ⟨ev, ?_, he.2⟩, ho.1.2.elim fun ev he => ⟨ev, ?_, he.2⟩⟩, tab_stay (h 3 (.inr (.inr rfl))) ho.2⟩
    · rw [World.cell?_of_block (h 1 (.inl rfl))]; exact he.1
    · rw [World.cell?_of_block (h 2 (.inr (.inl rfl)))]; exact he.1
theorem decF_eq : ∀ (f n : Nat), 0 < f → n < 10 ^ f → decF f n = Lib.decDigits n
  | 0, n, h, _ => absurd h (Nat.lt_irrefl _)
  | f + 1, n, _, hn => by
    rw [decF, Lib.decDigits]
    by_cases h10 : n < 10
    · rw [if_pos h10, dif_pos h10]
    · rw [if_neg h10, dif_neg h10]
      have hp : (10 : Nat) ^ (f + 1) = 10 ^ f * 10 := Nat.pow_succ ..
      have hf : 0 < f := by
        rcases Nat.eq_zero_or_pos f with rfl | hf
        · simp at hn; omega
        · exact hf
      rw [decF_eq f (n / 10) hf (by omega)]
theorem itoaF_eq {n : Int} (h0 : -9223372036854775808 ≤ n) (h1 : n ≤ 9223372036854775807) : itoaF n = Lib.itoa n := by
  unfold itoaF Lib.itoa
  have hp : (10 : Nat) ^ 20 = 100000000000000000000 := by decide
  split
  · rw [decF_eq 20 _ (by decide) (by rw [hp]; omega)]
  · rw [decF_eq 20 _ (by decide) (by rw [hp]; omega)]
theorem two_vals {vs : Array Value} {a b : D} (hl : [a, b].length = vs.size) : ∃ v0 v1, vs = #[v0, v1] := ⟨vs[0]'(by simp at hl; omega), vs[1]'(by simp at hl; omega), by
  refine Array.ext (by simp at hl ⊢; omega) fun i h1 h2 => ?_
  match i, (show i < 2 by simpa using h2) with
  | 0, _ => rfl
  | 1, _ => rfl⟩
theorem fmt_ok : ∀ (args : List D) (h : H) (d : D) (h' : H) (m : M) (w : World) (vs : Array Value), HR m w h → AV m w h.next args vs → fmtA 30 args h = some (d, h') → Calls Tryz.prog 30 vs w fun e w' => ∃ v m', e = .returned v ∧ Eff m w h d v w' h' m' := by
  intro args h d h' m w vs hr hv hc
  unfold fmtA at hc
  split at hc
  · split at hc
    · rename_i n b hcond
      obtain ⟨rfl, h0, h1⟩ := hcond
      cases hc
      obtain ⟨hl, hv⟩ := hv
      obtain ⟨v0, v1, rfl⟩ := two_vals hl
      have q0 := (hv 0 _ v0 rfl rfl).1
      have q1 := (hv 1 _ v1 rfl rfl).1
      cases q0 with
      | t q0 =>
      cases q1 with
      | t q1 =>
      cases q0; cases q1
      refine (Any.strconv_FormatInt_10 lays30 n h0 h1 w hr.glob.1.2).mono fun e w' ⟨he, k, os, hw⟩ => ?_
      subst hw
      refine ⟨_, m, he, .of_below hr ?_ ?_ rfl⟩
      · exact Lib.below_grow _ _ (Nat.le_refl _) _ _
      · rw [itoaF_eq h0 h1]; exact .t (.str _)
    · cases hc
  · cases hc
theorem cmp_ok : ∀ (args : List D) (h : H) (d : D) (h' : H) (m : M) (w : World) (vs : Array Value), HR m w h → AV m w h.next args vs → cmpA 39 args h = some (d, h') → Calls Tryz.prog 39 vs w fun e w' => ∃ v m', e = .returned v ∧ Eff m w h d v w' h' m' := by
  intro args h d h' m w vs hr hv hc
  unfold cmpA at hc
  split at hc
  · cases hc
    obtain ⟨hl, hv⟩ := hv
    obtain ⟨v0, v1, rfl⟩ := two_vals hl
    have q0 := (hv 0 _ v0 rfl rfl).1
    have q1 := (hv 1 _ v1 rfl rfl).1
    cases q0 with
    | t q0 =>
    cases q1 with
    | t q1 =>
    cases q0; cases q1
    refine (Any.strings_Compare lays39 _ _ w).mono fun e w' ⟨he, hw⟩ => ?_
    subst hw
    exact ⟨_, m, he, .of_below hr (Below.refl _ _) (.t (.int _ _)) rfl⟩
  · cases hc
theorem parse_ok : ∀ (args : List D) (h : H) (d : D) (h' : H) (m : M) (w : World) (vs : Array Value), HR m w h → AV m w h.next args vs → parseA 29 args h = some (d, h') → Calls Tryz.prog 29 vs w fun e w' => ∃ v m', e = .returned v ∧ Eff m w h d v w' h' m' := by
  intro args h d h' m w vs hr hv hc
  · unfold parseA at hc
    split at hc
    · rename_i s b z
      split at hc
      · rename_i hcond
        obtain ⟨rfl, rfl, hs⟩ := hcond
        obtain ⟨hl, hv⟩ := hv
        obtain ⟨v0, v1, v2, rfl⟩ : ∃ v0 v1 v2, vs = #[v0, v1, v2] := ⟨vs[0]'(by simp at hl; omega), vs[1]'(by simp at hl; omega), vs[2]'(by simp at hl; omega), by
          refine Array.ext (by simp at hl ⊢; omega) fun i h1 h2 => ?_
          match i, (show i < 3 by simpa using h2) with
          | 0, _ => rfl
          | 1, _ => rfl
          | 2, _ => rfl⟩
        have q0 := (hv 0 _ v0 rfl rfl).1
        have q1 := (hv 1 _ v1 rfl rfl).1
        have q2 := (hv 2 _ v2 rfl rfl).1
        cases q0 with
        | t q0 =>
        cases q1 with
        | t q1 =>
        cases q2 with
        | t q2 =>
        cases q0; cases q1; cases q2
        obtain ⟨⟨e0, g0, k0⟩, ⟨e1, g1, k1⟩⟩ := hr.glob.1.1
        split at hc
        · rename_i v hp
          cases hc
          refine (Any.strconv_ParseInt_10_at64_ok lays29 s (by omega) v hp w).mono fun e w' ⟨he, hw⟩ => ⟨_, m, he, ?_⟩
          have hb : Below w.heap.size w w' := by
            rcases hw with rfl | ⟨t, rfl⟩
            · exact Below.refl _ _
            · exact Lib.bytesWorld_below _ _ _
          refine .of_below hr hb (.tup rfl fun i d' v' hd hv => ?_) rfl
          match i with
          | 0 => simp at hd hv; subst hd; subst hv; exact .t (.int _ _)
          | 1 => simp at hd hv; subst hd; subst hv; exact .t .nilIface
          | i + 2 => simp at hd
        · rename_i hp
          have hcs : d = .tup [.undef, .iface 99 .undef] ∧ h' = h := by
            simp only [Option.some.injEq, Prod.mk.injEq] at hc
            exact ⟨hc.1.symm, hc.2.symm⟩
          obtain ⟨rfl, rfl⟩ := hcs
          have fin : ∀ (x : Value) (N : Nat) (w' : World), Below w.heap.size w w' → Eff m w h' (.tup [.undef, .iface 99 .undef]) (.tuple #[x, .iface 99 (.pointer (some ⟨N, 0, none⟩))]) w' h' m := fun x N w' hb => by
            refine .of_below hr hb (.tup rfl fun i d' v' hd hv => ?_) rfl
            match i with
            | 0 => simp at hd hv; subst hd; subst hv; exact .undef _
            | 1 => simp at hd hv; subst hd; subst hv; exact .iface (.undef _)
            | i + 2 => simp at hd
          rcases hpp : Lib.parseIntB 64 s.data.toList with v | _ | _
          · exact absurd hpp (hp v)
          · refine (Any.strconv_ParseInt_10_at64_syntax lays29 s (by omega) hpp e0 w g0 k0).mono fun e w' ⟨N, he, _, _, hb⟩ => ?_
            exact ⟨_, m, he, fin _ N w' hb⟩
          · refine (Any.strconv_ParseInt_10_at64_range lays29 s (by omega) hpp e1 w g1 k1).mono fun e w' ⟨N, he, _, _, hb⟩ => ?_
            exact ⟨_, m, he, fin _ N w' hb⟩
      · cases hc
    · cases hc
theorem primOK : PrimOK Tryz.prog prim := by
  intro k g hk args h d h' m w vs hr hv hc
  unfold prim at hk
  split at hk
  · rename_i e; subst e; cases hk; exact parse_ok args h d h' m w vs hr hv hc
  · split at hk
    · rename_i e; subst e; cases hk; exact fmt_ok args h d h' m w vs hr hv hc
    · split at hk
      · rename_i e; subst e; cases hk; exact cmp_ok args h d h' m w vs hr hv hc
      · split at hk
        · rename_i e; subst e; cases hk; exact insA_ok args h d h' m w vs hr hv hc
        · cases hk
end Go.Proofs.YtlcbhhmnfmeoeaaGreatDoor
