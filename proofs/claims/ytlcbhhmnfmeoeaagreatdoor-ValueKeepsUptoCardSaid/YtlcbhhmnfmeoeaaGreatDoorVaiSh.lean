import Derived.Test.YtlcbhhmnfmeoeaaGreatDoorVaiSg
import Derived.Test.YtlcbhhmnfmeoeaaGreatDoorVaiSc
import Derived.Shelf.Strconv.ParseIntPublic10
import Derived.Shelf.Strconv.Itoa4
import Derived.Lib.AppendIntMem
import Derived.Test.YtlcbhhmnfmeoeaaGreatDoorVaiD
import Derived.Test.YtlcbhhmnfmeoeaaGreatDoorCards
import Derived.Test.YtlcbhhmnfmeoeaaGreatDoorTie
import Derived.WalkKit
import Derived.ProofKit
import Derived.OpenShut
import Derived.JoinedCond
import Derived.Deep.DeepHandedRow
import Derived.Deep.DeepWitnessRowRef
import Derived.Lib.LaidIn
import Derived.Lib.LaidTab
import Derived.Stop.LaidErr
set_option linter.unusedSimpArgs false
set_option linter.unusedVariables false
set_option linter.unusedSectionVars false
namespace Go.Proofs.YtlcbhhmnfmeoeaaGreatDoor
open Vai
set_option maxHeartbeats 0
theorem s25 {x : T} {vs : List WV} {w : WV} (hx : Slice x (vs.map varW)) (hs : smallW vs) (hn : w.1.size ≤ 1000000000) :
    ∃ d h', call cx prim 25 [.t x, .t (.str w.1), .t (valT w.2.1 w.2.2.1 w.2.2.2)] .empty = some (d, h') ∧ VS 1 h' d (withB vs w) := by
  rw [call_run (cx := cx) rfl Tryz.func25 ok25 nd25 rfl (Nat.le_of_ble_eq_true rfl) rfl rfl]
  have q23 := fun h => c23 (c := 25) (d := .t x) h rfl hx hs (by simp [md])
  have q18 := fun h => c18 (c := 25) w.1 h hn (by simp [md])
  have hlx := fun hh => hx.len (P := Tryz.prog) (t := 31) tk31 hh
  rw [List.length_map] at hlx
  have hs1 := hs.1
  have hlow := low_le vs w.1
  have hb0 : ∀ (P : Program), True := fun _ => trivial
  have hret : ∀ h : H, ∃ d h', appendD Tryz.prog h 31 (.t .nilSlice) (.t x) = some (d, h') ∧ (1 ≤ h.next → VS 1 h' d vs) := by
    intro h
    have hsrc : sourceD h (.t x) = some ((vs.map varW).map .t) := by
      rcases hx with ⟨rfl, e⟩ | rfl
      · rw [e]; rfl
      · rfl
    refine ⟨(nrow 34 4 (vs.map varW) h).1, (nrow 34 4 (vs.map varW) h).2, append_nil (P := Tryz.prog) (h := h) tk31 sz34 byt34 zero34 rfl (by decide) hsrc (by simp [List.all_map]) (by simp; omega) (by simp; omega), fun h1 => ?_⟩
    by_cases hv : vs = []
    · subst hv; exact .inl ⟨rfl, rfl⟩
    · rw [nrow_cons (by simpa using hv)]
      exact .inr ⟨h.next, h1, by simp, by simp, by simp⟩
  obtain ⟨nm, k, n, sv⟩ := w
  simp only at q18 hn hlow ⊢
  unfold withB
  simp only
  cases hv : varsB vs with
  | false =>
    rw [hv] at q23
    obtain ⟨d, h', e1, e2⟩ := hret (H.empty.push (.row 23 3 [.t (valT k n sv)]))
    simp -implicitDefEqProofs (disch := omega) [q23, e1]
    exact ⟨_, _, ⟨rfl, rfl⟩, e2 (by simp)⟩
  | true =>
    rw [hv] at q23
    cases hnm : nameB nm with
    | false =>
      rw [hnm] at q18
      obtain ⟨d, h', e1, e2⟩ := hret (H.empty.push (.row 23 3 [.t (valT k n sv)]))
      simp -implicitDefEqProofs (disch := omega) [q23, q18, e1]
      exact ⟨_, _, ⟨rfl, rfl⟩, e2 (by simp)⟩
    | true =>
      rw [hnm] at q18
      have hasc : Asc vs := asc_of (by unfold varsB at hv; rw [Bool.and_eq_true] at hv; exact hv.1)
      simp -implicitDefEqProofs (disch := omega) [q23, q18]
      generalize hLp : loopω _ _ = L
      obtain ⟨x', ⟨nn, env, h2⟩, rfl, rfl, rfl, d, e1, e5, e7, e8, ho, hnx, hvs⟩ := loop_uses hLp vs.length
        (fun j st => st.n = 67 ∧ ∃ d, st.env 0 = .t x ∧ st.env 1 = .t (.str nm) ∧ st.env 5 = .ptr 0 0 0 1 ∧ st.env 7 = d ∧ st.env 8 = .t (.bool (decide (low vs nm < j))) ∧ st.env 9 = .t (.int .i64 j) ∧ st.h.objs 0 = some (.row 23 3 [.t (valT k n sv)]) ∧ 1 ≤ st.h.next ∧ VS 1 st.h d (outL vs (nm, k, n, sv) j))
        (fun x' st => x' = .exit 0 ∧ st.n = 67 ∧ ∃ d, st.env 1 = .t (.str nm) ∧ st.env 5 = .ptr 0 0 0 1 ∧ st.env 7 = d ∧ st.env 8 = .t (.bool (decide (low vs nm < vs.length))) ∧ st.h.objs 0 = some (.row 23 3 [.t (valT k n sv)]) ∧ 1 ≤ st.h.next ∧ VS 1 st.h d (outL vs (nm, k, n, sv) vs.length))
        (by refine ⟨rfl, .t .nilSlice, ?_⟩; simp; exact .inl ⟨by simp [outL], rfl⟩) (by
        clear hLp
        rintro j ⟨nn, env, h2⟩ hj ⟨rfl, d, e0, e1, e5, e7, e8, e9, ho, hnx, hvs⟩
        simp only at e0 e1 e5 e7 e8 e9 ho hnx hvs
        rw [LB_run nd25 rfl]
        have hol := outL_len vs (nm, k, n, sv) j
        by_cases hj' : j < vs.length
        · obtain ⟨u, hu⟩ : ∃ u, vs[j]? = some u := ⟨vs[j], by simp [hj']⟩
          have hxe : x = .slice (vs.map varW) := hx.eq_of_ne (by intro e; have := congrArg List.length e; simp at this; subst this; simp at hj')
          subst hxe
          have hg : (vs.map varW)[j]? = some (varW u) := by rw [List.getElem?_map, hu]; rfl
          have c1 : (j : Int) < vs.length := by omega
          rcases Nat.lt_trichotomy j (low vs nm) with hjl | hjl | hjl
          · have hl := low_lt hjl hu
            have hne : eqS u.1 nm = false := by
              apply Bool.eq_false_iff.2
              intro h
              unfold eqS at h
              rw [of_decide_eq_true h, lessS_irrefl] at hl
              cases hl
            unfold lessS at hl
            have d1 : ¬ low vs nm < j := by omega
            have d2 : ¬ low vs nm < j + 1 := by omega
            obtain ⟨d', h', a1, a2, a3, a4⟩ := app_one (w := u) hvs hnx (by omega)
            simp -implicitDefEqProofs (disch := omega) [-List.getElem?_map, e0, e1, e5, e7, e8, e9, ho, hg, hl, hne, d1, d2, buildSliceD, a1, Wp_some]
            exact ⟨hj', (a4 0 (by decide)).trans ho, by omega, by rw [outL_less (w := (nm, k, n, sv)) hu hjl]; exact a2⟩
          · have hl := low_at (nm := nm) (by rw [← hjl]; exact hu)
            unfold lessS at hl
            have d1 : ¬ low vs nm < j := by omega
            have d2 : low vs nm < j + 1 := by omega
            obtain ⟨d', h', a1, a2, a3, a4⟩ := app_one (w := (nm, k, n, sv)) hvs hnx (by omega)
            have ho' := (a4 0 (by decide)).trans ho
            cases he : eqS u.1 nm with
            | true =>
              simp -implicitDefEqProofs (disch := omega) [-List.getElem?_map, e0, e1, e5, e7, e8, e9, ho, hg, hl, he, d1, d2, buildSliceD, a1, Wp_some]
              exact ⟨hj', ho', by omega, by rw [outL_is (w := (nm, k, n, sv)) hu hjl he]; exact a2⟩
            | false =>
              obtain ⟨d'', h'', b1, b2, b3, b4⟩ := app_one (w := u) a2 (by omega) (by simp; omega)
              simp -implicitDefEqProofs (disch := omega) [-List.getElem?_map, e0, e1, e5, e7, e8, e9, ho, hg, hl, he, d1, d2, buildSliceD, a1, b1, Wp_some]
              exact ⟨hj', (b4 0 (by decide)).trans ho', by omega, by rw [outL_at (w := (nm, k, n, sv)) hu hjl he]; exact b2⟩
          · have hl := low_gt hasc hjl hu
            have hne : eqS u.1 nm = false := by
              apply Bool.eq_false_iff.2
              intro h
              unfold eqS at h
              rw [of_decide_eq_true h, lessS_irrefl] at hl
              cases hl
            have d1 : low vs nm < j := hjl
            have d2 : low vs nm < j + 1 := by omega
            obtain ⟨d', h', a1, a2, a3, a4⟩ := app_one (w := u) hvs hnx (by omega)
            simp -implicitDefEqProofs (disch := omega) [-List.getElem?_map, e0, e1, e5, e7, e8, e9, ho, hg, hne, d1, d2, buildSliceD, a1, Wp_some]
            exact ⟨hj', (a4 0 (by decide)).trans ho, by omega, by rw [outL_more (w := (nm, k, n, sv)) hu hjl]; exact a2⟩
        · obtain rfl : j = vs.length := by omega
          simp -implicitDefEqProofs (disch := omega) [e0, e1, e5, e7, e8, e9, hlx, ho, Wp_some]
          exact ⟨hnx, hvs⟩)
      simp only at e1 e5 e7 e8 ho hnx hvs
      rw [← outL_end]
      simp only
      have hol := outL_len vs (nm, k, n, sv) vs.length
      by_cases hl : low vs nm < vs.length
      · simp -implicitDefEqProofs (disch := omega) [e1, e5, e7, e8, hl]
        exact ⟨_, _, ⟨rfl, rfl⟩, hvs⟩
      · obtain ⟨d', h', a1, a2, a3, a4⟩ := app_one (w := (nm, k, n, sv)) hvs hnx (by omega)
        simp -implicitDefEqProofs (disch := omega) [e1, e5, e7, e8, hl, ho, buildSliceD, a1]
        exact ⟨_, _, ⟨rfl, rfl⟩, a2⟩
theorem VS.out {lo : Nat} {h : H} {d : D} {vs : List WV} (hv : VS lo h d vs) : ∃ y, snapOut h d = some (.t y) ∧ Slice y (vs.map varW) := by
  rcases hv with ⟨rfl, rfl⟩ | ⟨id, _, _, rfl, ho⟩
  · exact ⟨.nilSlice, rfl, .nil⟩
  · refine ⟨.slice (vs.map varW), ?_, .mk⟩
    have he : h.els id vs.length = some (34, 4, (vs.map varW).map .t) := by simp [H.els, ho]
    simp only [snapOut, snap_def, snapF_row, he]
    have h3 : (((vs.map varW).map D.t).drop 0).take vs.length = (vs.map varW).map .t := by rw [List.drop_zero, List.take_of_length_le (by simp)]
    simp only [List.length_map, Nat.zero_add, Nat.le_refl, if_true, h3, snapF_map]
    rfl
theorem VA.tree {h : H} {x : T} {vs : List WV} (hx : Slice x (vs.map varW)) : VA h (.t x) vs := ⟨x, hx, rfl, .inl rfl⟩
theorem c25 {c : FuncId} {x : T} {vs : List WV} {w : WV} (h : H) (hx : Slice x (vs.map varW)) (hs : smallW vs) (hn : w.1.size ≤ 1000000000) (hm : md c 25 = .pure) :
    ∃ y, callD (cx.at c) (call cx prim) 25 [.t x, .t (.str w.1), .t (valT w.2.1 w.2.2.1 w.2.2.2)] h = some (.t y, h) ∧ Slice y ((withB vs w).map varW) := by
  obtain ⟨d, h', q, hv⟩ := s25 hx hs hn
  obtain ⟨y, hy, hsl⟩ := hv.out
  exact ⟨y, pureT cb25 hm q hy rfl, hsl⟩
theorem c14 {c : FuncId} {x : T} {vs : List WV} {w : WV} (h : H) (hx : Slice x (vs.map varW)) (hs : smallW vs) (hn : w.1.size ≤ 1000000000) (hm : md c 14 = .pure) :
    ∃ y, callD (cx.at c) (call cx prim) 14 [.t x, .t (.str w.1), .t (valT w.2.1 w.2.2.1 w.2.2.2)] h = some (.t y, h) ∧ Slice y ((withB vs w).map varW) := by
  obtain ⟨d, h', q, hv, _⟩ := s14 (w := w) (VA.tree (h := .empty) hx) hs hn
  obtain ⟨y, hy, hsl⟩ := hv.out
  exact ⟨y, pureT cb14 hm q hy rfl, hsl⟩
end Go.Proofs.YtlcbhhmnfmeoeaaGreatDoor

namespace Go.Proofs.YtlcbhhmnfmeoeaaGreatDoor
open Vai
set_option maxHeartbeats 0
set_option maxRecDepth 100000 in
theorem awake11 : yes (callN cx prim 60 11 [] .empty) = true := by kernel_rfl
theorem c11 {c : FuncId} (h : H) (hm : md c 11 = .pure) : callD (cx.at c) (call cx prim) 11 [] h = some (.t (.bool true), h) := by
  obtain ⟨h', q⟩ := yes_call awake11
  exact pureT cb11 hm q rfl rfl
end Go.Proofs.YtlcbhhmnfmeoeaaGreatDoor

namespace Go.Proofs.YtlcbhhmnfmeoeaaGreatDoor
open Vai
set_option maxHeartbeats 0
theorem lv23 : leaves Tryz.prog 23 = some [.int, .int, .str] := by kernel_rfl
theorem eq_val {k n k' n' : Int} {s s' : ByteArray} (h : H) : binD Tryz.prog h .eql 23 (.t (valT k n s)) (.t (valT k' n' s')) = some (.t (.bool (eqI k k' && (eqI n n' && eqS s s')))) := by
  simp [binD, eqD, lv23, eqCells, eqCell]
theorem ne_val {k n k' n' : Int} {s s' : ByteArray} (h : H) : binD Tryz.prog h .neq 23 (.t (valT k n s)) (.t (valT k' n' s')) = some (.t (.bool (!(eqI k k' && (eqI n n' && eqS s s'))))) := by
  simp [binD, eqD, lv23, eqCells, eqCell]
theorem getT_val (vs : List WV) (nm : ByteArray) : ∃ k n s, getT vs nm = valT k n s := by
  unfold getT
  split
  · exact ⟨_, _, _, rfl⟩
  · exact ⟨_, _, _, rfl⟩
theorem c20 {c : FuncId} {x : T} {vs : List WV} {nm : ByteArray} (h : H) (hx : Slice x (vs.map varW)) (hs : vs.length ≤ 2000000) (hm : md c 20 = .pure) : callD (cx.at c) (call cx prim) 20 [.t x, .t (.str nm)] h = some (.tup [.t (getT vs nm), .t (.bool (getW vs nm).isSome)], h) := by
  obtain ⟨h', q⟩ := s20 (nm := nm) hx hs
  exact pureT cb20 hm q rfl rfl
theorem c21 {c : FuncId} {x : T} {vs : List WV} {nm : ByteArray} (h : H) (hx : Slice x (vs.map varW)) (hs : vs.length ≤ 2000000) (hm : md c 21 = .pure) : callD (cx.at c) (call cx prim) 21 [.t x, .t (.str nm)] h = some (.tup [.t (getT vs nm), .t (.bool (getW vs nm).isSome)], h) := by
  obtain ⟨h', q⟩ := s21 (nm := nm) hx hs
  exact pureT cb21 hm q rfl rfl
theorem c26 {c : FuncId} {x y : T} {vs : List WV} {ds : List DV} (h : H) (hx : Slice x (vs.map varW)) (hy : Slice y (ds.map decT)) (hs : smallW vs) (hd : ds.length ≤ 2000000) (hm : md c 26 = .pure) : callD (cx.at c) (call cx prim) 26 [.t x, .t y] h = some (.t (.bool (fitB vs ds)), h) := by
  obtain ⟨h', q⟩ := s26 hx hy hs hd
  exact pureT cb26 hm q rfl rfl
theorem c27 {c : FuncId} {x y : T} {vs : List WV} {ds : List DV} (h : H) (hx : Slice x (vs.map varW)) (hy : Slice y (ds.map decT)) (hs : smallW vs) (hd : ds.length ≤ 2000000) (hm : md c 27 = .pure) : callD (cx.at c) (call cx prim) 27 [.t x, .t y] h = some (.t (.bool (fitB vs ds)), h) := by
  obtain ⟨h', q⟩ := s27 hx hy hs hd
  exact pureT cb27 hm q rfl rfl
theorem withB_len (vs : List WV) (w : WV) : (withB vs w).length ≤ vs.length + 1 := by
  unfold withB withV
  have := low_le vs w.1
  split
  · simp; omega
  · omega
theorem law7 {x y : T} {vs : List WV} {ds : List DV} {nm : ByteArray} {k n : Int} {sv : ByteArray} (hx : Slice x (vs.map varW)) (hy : Slice y (ds.map decT)) (hs : smallW vs) (hd : ds.length ≤ 2000000) (hn : nm.size ≤ 1000000000) (hl : vs.length ≤ 1900000) :
    ∃ h', call cx prim 7 [.t x, .t (.str nm), .t (valT k n sv), .t y] .empty = some (.t (.bool true), h') := by
  rw [call_run (cx := cx) rfl Tryz.func7 ok7 nd7 rfl (Nat.le_of_ble_eq_true rfl) rfl rfl]
  have q11 := fun h => c11 (c := 7) h rfl
  have q20 := fun h => c20 (c := 7) (nm := nm) h hx hs.1 rfl
  have q21 := fun h => c21 (c := 7) (nm := nm) h hx hs.1 rfl
  have q22 := fun h => c22 (c := 7) (d := .t x) h rfl hx hs rfl
  have q23 := fun h => c23 (c := 7) (d := .t x) h rfl hx hs rfl
  have q26 := fun h => c26 (c := 7) h hx hy hs hd rfl
  have q27 := fun h => c27 (c := 7) h hx hy hs hd rfl
  have hwl := withB_len vs (nm, k, n, sv)
  obtain ⟨d14, h14, e14, v14, _⟩ := s14 (w := (nm, k, n, sv)) (VA.tree (h := .empty) hx) hs hn
  obtain ⟨y14, o14, z14⟩ := v14.out
  have q14 := fun h => pureT (cc := cx.at 7) (h := h) cb14 rfl e14 o14 rfl
  obtain ⟨d25, h25, e25, v25⟩ := s25 (w := (nm, k, n, sv)) hx hs hn
  obtain ⟨y25, o25, z25⟩ := v25.out
  have q25 := fun h => pureT (cc := cx.at 7) (h := h) cb25 rfl e25 o25 rfl
  have q24 := fun h => c24 (c := 7) z14 z25 (by omega) (by omega) h rfl
  simp only at q14 q25
  obtain ⟨k', n', s', hg⟩ := getT_val vs nm
  rw [hg] at q20 q21
  simp -implicitDefEqProofs (disch := omega) [-bin_eql_tagg, q11, q20, q21, q22, q23, q14, q25, q24, q26, q27, eq_val]
end Go.Proofs.YtlcbhhmnfmeoeaaGreatDoor

namespace Go.Proofs.YtlcbhhmnfmeoeaaGreatDoor
open Vai
set_option maxHeartbeats 0
abbrev zeroW : WV := (⟨#[]⟩, 0, 0, ⟨#[]⟩)
/-- A row with room behind it. -/
abbrev roomR (vs : List WV) : AObj := .row 34 4 (((vs ++ [zeroW, zeroW, zeroW, zeroW]).map varW).map .t)
theorem l5a {m : List WV} {R : AObj} (hm : m.length ≤ 1900000) {d : D} {st : St} {r : CR} (hLp : loopω (LB cx prim 5 Tryz.f5 0) st = r) (en : st.n = 71) (e8 : st.env 8 = d) (e9 : st.env 9 = .t (.int .i64 0)) (hd : VS 2 st.h d m) (h1 : st.h.objs 1 = some R) {a0 a7 : D} (e0 : st.env 0 = a0) (e7 : st.env 7 = a7) :
    ∃ st', r = some (.exit 0, st') ∧ st'.n = 71 ∧ st'.env 0 = a0 ∧ st'.env 7 = a7 ∧ st'.h.objs 1 = some R := by
  obtain ⟨x', ⟨nn, env, h2⟩, rfl, rfl, hq⟩ := loop_uses hLp m.length
    (fun j s => s.n = 71 ∧ s.env 8 = d ∧ s.env 0 = a0 ∧ s.env 7 = a7 ∧ s.env 9 = .t (.int .i64 j) ∧ s.h.objs 1 = some R ∧ ∃ ws : List WV, ws.length = m.length ∧ VS 2 s.h d ws)
    (fun x' s => x' = .exit 0 ∧ s.n = 71 ∧ s.env 0 = a0 ∧ s.env 7 = a7 ∧ s.h.objs 1 = some R)
    ⟨en, e8, e0, e7, e9, h1, m, rfl, hd⟩ (by
    clear hLp e0 e7 e8 e9 hd h1
    rintro j ⟨nn, env, h2⟩ hj ⟨rfl, e8, e0, e7, e9, h1, ws, hw, hd⟩
    simp only at e8 e0 e7 e9 h1 hd
    rw [LB_run nd5 rfl]
    rcases hd with ⟨rfl, rfl⟩ | ⟨id, hlo, hid, rfl, ho⟩
    · have hm0 : m.length = 0 := by rw [← hw]; rfl
      obtain rfl : j = 0 := by omega
      simp -implicitDefEqProofs (disch := omega) [e8, e0, e7, e9, h1, Wp_some]
    · by_cases hj' : j < m.length
      · obtain ⟨v, hv⟩ : ∃ v, ws[j]? = some v := ⟨ws[j]'(by omega), by simp [show j < ws.length by omega]⟩
        have g1 : ((ws.map varW).map D.t)[j]? = some (.t (varW v)) := by simp [hv]
        have c1 : (j : Int) < ws.length := by omega
        have c2 : j < ws.length := by omega
        have hne : ¬ 1 = id := by omega
        simp -implicitDefEqProofs (disch := omega) [-List.map_map, e8, e0, e7, e9, ho, g1, c2, h1, hne, Wp_some]
        refine ⟨hj', ws.set j (⟨#[115, 112, 111, 105, 108, 116]⟩, v.2), by simp [hw], .inr ⟨id, hlo, by simpa using hid, by simp, ?_⟩⟩
        simp only [set_objs, upd_same, List.map_set]
      · obtain rfl : j = m.length := by omega
        rw [← hw] at e9
        simp -implicitDefEqProofs (disch := omega) [e8, e0, e7, e9, ho, h1, Wp_some])
  exact ⟨_, rfl, hq⟩
theorem l5b {vs : List WV} {x : T} (hx : Slice x (vs.map varW)) (hl : vs.length ≤ 1900000) {st : St} {r : CR} (hLp : loopω (LB cx prim 5 Tryz.f5 2) st = r) (en : st.n = 71) (e0 : st.env 0 = .t x) (e7 : st.env 7 = .row 1 0 (vs.length + 4) (vs.length + 4)) (e10 : st.env 10 = .t (.int .i64 0)) (h1 : st.h.objs 1 = some (roomR vs)) :
    ∃ st', r = some (.exit 2, st') ∧ st'.n = 71 := by
  have hlx := fun hh => hx.len (P := Tryz.prog) (t := 31) tk31 hh
  rw [List.length_map] at hlx
  obtain ⟨x', ⟨nn, env, h2⟩, rfl, rfl, hq⟩ := loop_uses hLp (vs.length + 4)
    (fun j s => s.n = 71 ∧ s.env 0 = .t x ∧ s.env 7 = .row 1 0 (vs.length + 4) (vs.length + 4) ∧ s.env 10 = .t (.int .i64 j) ∧ s.h.objs 1 = some (roomR vs))
    (fun x' s => x' = .exit 2 ∧ s.n = 71)
    ⟨en, e0, e7, e10, h1⟩ (by
    clear hLp e0 e7 e10 h1
    rintro j ⟨nn, env, h2⟩ hj ⟨rfl, e0, e7, e10, h1⟩
    simp only at e0 e7 e10 h1
    rw [LB_run nd5 rfl]
    have hlen : (((vs ++ [zeroW, zeroW, zeroW, zeroW]).map varW).map D.t).length = vs.length + 4 := by simp
    by_cases hj' : j < vs.length + 4
    · have c2 : (j : Int) < (vs.length : Int) + 4 := by omega
      by_cases hj2 : j < vs.length
      · obtain ⟨v, hv⟩ : ∃ v, vs[j]? = some v := ⟨vs[j], by simp [hj2]⟩
        have hxe : x = .slice (vs.map varW) := hx.eq_of_ne (by intro e; have := congrArg List.length e; simp at this; subst this; simp at hj2)
        subst hxe
        have hg : (vs.map varW)[j]? = some (varW v) := by rw [List.getElem?_map, hv]; rfl
        have g1 : (((vs ++ [zeroW, zeroW, zeroW, zeroW]).map varW).map D.t)[j]? = some (.t (varW v)) := by
          rw [List.getElem?_map, List.getElem?_map, List.getElem?_append_left hj2, hv]; rfl
        have hvv : vs[j] = v := by rw [List.getElem?_eq_getElem hj2] at hv; exact Option.some.inj hv
        unfold roomR at h1
        generalize hE : ((vs ++ [zeroW, zeroW, zeroW, zeroW]).map varW).map D.t = E at h1 g1 hlen
        simp -implicitDefEqProofs (disch := omega) [-bin_neq_tagg, -getElem?_pos, -List.getElem?_map, -List.map_map, e0, e7, e10, h1, hlen, g1, hg, hj', neq_var, hvv, Wp_some]
        rw [← hE]; simp
      · have g1 : (((vs ++ [zeroW, zeroW, zeroW, zeroW]).map varW).map D.t)[j]? = some (.t (varW zeroW)) := by
          rw [List.getElem?_map, List.getElem?_map, List.getElem?_append_right (by omega)]
          have : j - vs.length = 0 ∨ j - vs.length = 1 ∨ j - vs.length = 2 ∨ j - vs.length = 3 := by omega
          rcases this with e | e | e | e <;> rw [e] <;> rfl
        have hnz : ∀ h : H, binD Tryz.prog h .neq 34 (.t (.agg [.str ⟨#[]⟩, .int .i64 0, .int .i64 0, .str ⟨#[]⟩])) (.t (.agg [.str ⟨#[]⟩, .int .i64 0, .int .i64 0, .str ⟨#[]⟩])) = some (.t (.bool false)) := fun h => by
          have := neq_var (v := zeroW) (w := zeroW) h
          simpa using this
        unfold roomR at h1
        generalize hE : ((vs ++ [zeroW, zeroW, zeroW, zeroW]).map varW).map D.t = E at h1 g1 hlen
        simp -implicitDefEqProofs (disch := omega) [-bin_neq_tagg, -getElem?_pos, -List.getElem?_map, -List.map_map, e0, e7, e10, h1, hlen, hlx, g1, hj', hnz, Wp_some]
        rw [← hE]; simp
    · obtain rfl : j = vs.length + 4 := by omega
      have c3 : ¬ ((vs.length : Int) + 4 < vs.length + 4) := by omega
      simp -implicitDefEqProofs (disch := omega) [e0, e7, e10, h1, Wp_some])
  exact ⟨_, rfl, hq⟩
theorem law5 {x : T} {vs : List WV} {nm : ByteArray} {k n : Int} {sv : ByteArray} (hx : Slice x (vs.map varW)) (hs : smallW vs) (hn : nm.size ≤ 1000000000) (hl : vs.length ≤ 1800000) :
    ∃ h', call cx prim 5 [.t x, .t (.str nm), .t (valT k n sv)] .empty = some (.t (.bool true), h') := by
  rw [call_run (cx := cx) rfl Tryz.func5 ok5 nd5 rfl (Nat.le_of_ble_eq_true rfl) rfl rfl]
  have q11 := fun h => c11 (c := 5) h rfl
  have hlx := fun hh => hx.len (P := Tryz.prog) (t := 31) tk31 hh
  rw [List.length_map] at hlx
  have hsrc : ∀ h : H, sourceD h (.t x) = some ((vs.map varW).map .t) := fun h => by
    rcases hx with ⟨rfl, e⟩ | rfl
    · rw [e]; rfl
    · rfl
  have hE : ((vs ++ [zeroW, zeroW, zeroW, zeroW]).map varW).map D.t = splice (List.replicate (vs.length + 4) (.t (varW zeroW))) 0 (((vs.map varW).map D.t).take (vs.length)) := by
    rw [List.take_of_length_le (by simp)]
    simp [splice, List.drop_replicate]
  obtain ⟨h1, hh1⟩ : ∃ h1, h1 = (H.empty.push (.row 23 3 [.t (valT k n sv)])).push (roomR vs) := ⟨_, rfl⟩
  have ho1 : h1.objs 1 = some (roomR vs) := by rw [hh1]; simp
  obtain ⟨d14, h2, e14, v14, n14, k14, _⟩ := s14 (a := .row 1 0 vs.length (vs.length + 4)) (w := (nm, k, n, sv)) (h := h1) (vs := vs) (by
    have he : h1.els 1 (vs.length + 4) = some (34, 4, ((vs ++ [zeroW, zeroW, zeroW, zeroW]).map varW).map D.t) := by simp [H.els, ho1]
    have ht : (((((vs ++ [zeroW, zeroW, zeroW, zeroW]).map varW).map D.t)).drop 0).take vs.length = (vs.map varW).map .t := by
      rw [List.drop_zero, List.map_append, List.map_append, List.take_append_of_le_length (by simp), List.take_of_length_le (by simp)]
    refine ⟨.slice (vs.map varW), .mk, ?_, .inr ⟨1, 0, vs.length + 4, _, by rw [hh1]; simp, rfl, he, by simp, ht⟩⟩
    simp only [snap_def, snapF_row, he, ht]
    rw [if_pos (by simp), snapF_map]
    rfl) hs hn
  have q14 := keepT (cc := cx.at 5) cb14 (by simp [md]) e14
  simp only at q14
  have ho2 : h2.objs 1 = some (roomR vs) := by rw [k14 1 (by rw [hh1]; simp)]; exact ho1
  have hb0 : h1.objs 0 = some (.row 23 3 [.t (valT k n sv)]) := by rw [hh1]; simp
  have hmk : makeSliceD Tryz.prog (H.empty.push (.row 23 3 [.t (valT k n sv)])) 31 (.t (.int .i64 (vs.length + 4))) (.t (.int .i64 (vs.length + 4))) = some (.row 1 0 (vs.length + 4) (vs.length + 4), (H.empty.push (.row 23 3 [.t (valT k n sv)])).push (.row 34 4 (List.replicate (vs.length + 4) (.t (varW zeroW))))) := by
    have e1 : ((vs.length : Int) + 4).toNat = vs.length + 4 := by omega
    simp [makeSliceD, e1]
    omega
  have hcp : copyD Tryz.prog ((H.empty.push (.row 23 3 [.t (valT k n sv)])).push (.row 34 4 (List.replicate (vs.length + 4) (.t (varW zeroW))))) 31 (.row 1 0 (vs.length + 4) (vs.length + 4)) (.t x) = some (.t (.int .i64 vs.length), h1) := by
    have hm : min ((vs.map varW).map D.t).length (vs.length + 4) = vs.length := by simp
    have hall : (((vs.map varW).map D.t).all fun d => d.cells.length == 4) = true := by simp [List.all_map]
    have hlen : ((vs.map varW).map D.t).length = vs.length := by simp
    rw [hh1]
    unfold roomR
    rw [hE]
    generalize hX : (vs.map varW).map D.t = X at hsrc hall hlen hm
    simp [copyD, hsrc, hall, hlen, H.set, H.push]
    funext i
    by_cases hi : i = 1 <;> simp [upd, hi]
  have hsli : sliceD Tryz.prog h1 31 (.row 1 0 (vs.length + 4) (vs.length + 4)) none (some (.t (.int .i64 vs.length))) none = some (.row 1 0 vs.length (vs.length + 4)) := by
    have he : h1.els 1 (vs.length + 4) = some (34, 4, ((vs ++ [zeroW, zeroW, zeroW, zeroW]).map varW).map D.t) := by simp [H.els, ho1]
    have c1 : (vs.length : Int) ≤ (vs.length : Int) + 4 := by omega
    simp [-H.els, sliceD, he]
    omega
  simp -implicitDefEqProofs (disch := omega) [hlx, hmk, hcp, q14, hb0, hsli]
  generalize hLp : loopω _ _ = L
  have hv2 : VS 2 h2 d14 (withB vs (nm, k, n, sv)) := by
    have : h1.next = 2 := by rw [hh1]; rfl
    rw [this] at v14
    exact v14
  have hwl := withB_len vs (nm, k, n, sv)
  obtain ⟨⟨nn, env, h3⟩, rfl, rfl, e0, e7, ho3⟩ := l5a (m := withB vs (nm, k, n, sv)) (d := d14) (R := roomR vs) (by omega) hLp rfl (by simp) (by simp) (by simpa using hv2) (by simpa using ho2) (a0 := .t x) (a7 := .row 1 0 (vs.length + 4) (vs.length + 4)) (by simp) (by simp)
  simp only at e0 e7 ho3
  simp -implicitDefEqProofs (disch := omega) []
  generalize hLp2 : loopω _ _ = L2
  obtain ⟨⟨nn, env2, h4⟩, rfl, rfl⟩ := l5b hx (by omega) hLp2 rfl (by simpa using e0) (by simpa using e7) (by simp) (by simpa using ho3)
  simp -implicitDefEqProofs (disch := omega) [q11]
end Go.Proofs.YtlcbhhmnfmeoeaaGreatDoor

/-
  What strconv.ParseInt, strconv.FormatInt and strings.Compare answer: out of the library's own proofs of them, at this program's numbers.
-/
namespace Go.Proofs.YtlcbhhmnfmeoeaaGreatDoor
open Vai
open Go.RowKit (Below)
def lays29_ren : Go.Shelf.Ren := ⟨fun | 174 => 29 | 247 => 45 | 245 => 46 | 287 => 58 | 279 => 59 | 280 => 60 | 281 => 61 | 282 => 62 | 321 => 76 | 322 => 77 | 316 => 78 | 171 => 80 | 205 => 79 | 243 => 95 | 246 => 47 | 283 => 63 | 284 => 64 | 285 => 65 | 286 => 66 | 129 => 82 | 317 => 81 | 318 => 83 | 319 => 84 | 320 => 85 | 337 => 96 | 338 => 97 | n => n, fun | 9 => 9 | 3 => 3 | 2 => 2 | 75 => 50 | 85 => 51 | 4 => 4 | 167 => 96 | 5 => 5 | 53 => 72 | 175 => 97 | 46 => 61 | 168 => 99 | 37 => 56 | 0 => 0 | 210 => 114 | 21 => 21 | 127 => 140 | 145 => 143 | 143 => 141 | 171 => 103 | 173 => 106 | 212 => 118 | 51 => 77 | 20 => 20 | 213 => 119 | 232 => 159 | 233 => 160 | 80 => 176 | n => n, fun | 15 => 1 | 16 => 2 | 17 => 3 | 18 => 4 | 19 => 5 | n => n⟩
theorem lays29 : Go.Proofs.LaysC.n174 Tryz.prog lays29_ren where
  mixed := by kernel_rfl
  f129 := Tryz.func82.trans (congrArg some (by kernel_rfl))
  f171 := Tryz.func80.trans (congrArg some (by kernel_rfl))
  f174 := Tryz.func29.trans (congrArg some (by kernel_rfl))
  f205 := Tryz.func79.trans (congrArg some (by kernel_rfl))
  f243 := Tryz.func95.trans (congrArg some (by kernel_rfl))
  f245 := Tryz.func46.trans (congrArg some (by kernel_rfl))
  f246 := Tryz.func47.trans (congrArg some (by kernel_rfl))
  f247 := Tryz.func45.trans (congrArg some (by kernel_rfl))
  f279 := Tryz.func59.trans (congrArg some (by kernel_rfl))
  f280 := Tryz.func60.trans (congrArg some (by kernel_rfl))
  f281 := Tryz.func61.trans (congrArg some (by kernel_rfl))
  f282 := Tryz.func62.trans (congrArg some (by kernel_rfl))
  f283 := Tryz.func63.trans (congrArg some (by kernel_rfl))
  f284 := Tryz.func64.trans (congrArg some (by kernel_rfl))
  f285 := Tryz.func65.trans (congrArg some (by kernel_rfl))
  f286 := Tryz.func66.trans (congrArg some (by kernel_rfl))
  f287 := Tryz.func58.trans (congrArg some (by kernel_rfl))
  f316 := Tryz.func78.trans (congrArg some (by kernel_rfl))
  f317 := Tryz.func81.trans (congrArg some (by kernel_rfl))
  f318 := Tryz.func83.trans (congrArg some (by kernel_rfl))
  f319 := Tryz.func84.trans (congrArg some (by kernel_rfl))
  f320 := Tryz.func85.trans (congrArg some (by kernel_rfl))
  f321 := Tryz.func76.trans (congrArg some (by kernel_rfl))
  f322 := Tryz.func77.trans (congrArg some (by kernel_rfl))
  f337 := Tryz.func96.trans (congrArg some (by kernel_rfl))
  f338 := Tryz.func97.trans (congrArg some (by kernel_rfl))
  t0 := Tryz.underlying0
  a0 := Tryz.isAgg0
  z0 := Tryz.sizeOf0
  v0 := Tryz.zeroValue0
  t2 := Tryz.underlying2
  a2 := Tryz.isAgg2
  z2 := Tryz.sizeOf2
  v2 := Tryz.zeroValue2
  t3 := Tryz.underlying3
  a3 := Tryz.isAgg3
  z3 := Tryz.sizeOf3
  v3 := Tryz.zeroValue3
  t4 := Tryz.underlying4
  a4 := Tryz.isAgg4
  z4 := Tryz.sizeOf4
  v4 := Tryz.zeroValue4
  t5 := Tryz.underlying5
  a5 := Tryz.isAgg5
  z5 := Tryz.sizeOf5
  v5 := Tryz.zeroValue5
  t9 := Tryz.underlying9
  a9 := Tryz.isAgg9
  z9 := Tryz.sizeOf9
  v9 := Tryz.zeroValue9
  t20 := Tryz.underlying20
  a20 := Tryz.isAgg20
  z20 := Tryz.sizeOf20
  v20 := Tryz.zeroValue20
  t21 := Tryz.underlying21
  a21 := Tryz.isAgg21
  z21 := Tryz.sizeOf21
  v21 := Tryz.zeroValue21
  t37 := Tryz.underlying56
  a37 := Tryz.isAgg56
  z37 := Tryz.sizeOf56
  v37 := Tryz.zeroValue56
  t46 := Tryz.underlying61
  a46 := Tryz.isAgg61
  z46 := Tryz.sizeOf61
  v46 := Tryz.zeroValue61
  t51 := Tryz.underlying77
  a51 := Tryz.isAgg77
  z51 := Tryz.sizeOf77
  v51 := Tryz.zeroValue77
  t53 := Tryz.underlying72
  a53 := Tryz.isAgg72
  z53 := Tryz.sizeOf72
  v53 := Tryz.zeroValue72
  t75 := Tryz.underlying50
  a75 := Tryz.isAgg50
  z75 := Tryz.sizeOf50
  v75 := Tryz.zeroValue50
  t85 := Tryz.underlying51
  a85 := Tryz.isAgg51
  z85 := Tryz.sizeOf51
  v85 := Tryz.zeroValue51
  t127 := Tryz.underlying140
  a127 := Tryz.isAgg140
  z127 := Tryz.sizeOf140
  v127 := Tryz.zeroValue140
  t143 := Tryz.underlying141
  a143 := Tryz.isAgg141
  z143 := Tryz.sizeOf141
  v143 := Tryz.zeroValue141
  t145 := Tryz.underlying143
  a145 := Tryz.isAgg143
  z145 := Tryz.sizeOf143
  v145 := Tryz.zeroValue143
  t167 := Tryz.underlying96
  a167 := Tryz.isAgg96
  z167 := Tryz.sizeOf96
  v167 := Tryz.zeroValue96
  t168 := Tryz.underlying99
  a168 := Tryz.isAgg99
  z168 := Tryz.sizeOf99
  v168 := Tryz.zeroValue99
  t171 := Tryz.underlying103
  a171 := Tryz.isAgg103
  z171 := Tryz.sizeOf103
  v171 := Tryz.zeroValue103
  t173 := Tryz.underlying106
  a173 := Tryz.isAgg106
  z173 := Tryz.sizeOf106
  v173 := Tryz.zeroValue106
  t175 := Tryz.underlying97
  a175 := Tryz.isAgg97
  z175 := Tryz.sizeOf97
  v175 := Tryz.zeroValue97
  t210 := Tryz.underlying114
  a210 := Tryz.isAgg114
  z210 := Tryz.sizeOf114
  v210 := Tryz.zeroValue114
  t212 := Tryz.underlying118
  a212 := Tryz.isAgg118
  z212 := Tryz.sizeOf118
  v212 := Tryz.zeroValue118
  t213 := Tryz.underlying119
  a213 := Tryz.isAgg119
  z213 := Tryz.sizeOf119
  t232 := Tryz.underlying159
  a232 := Tryz.isAgg159
  z232 := Tryz.sizeOf159
  v232 := Tryz.zeroValue159
  t233 := Tryz.underlying160
  a233 := Tryz.isAgg160
  z233 := Tryz.sizeOf160
  v233 := Tryz.zeroValue160
  g15 := by kernel_rfl
  g16 := by kernel_rfl
  g17 := by kernel_rfl
  g18 := by kernel_rfl
  g19 := by kernel_rfl
  t80 := Tryz.underlying176
  a80 := Tryz.isAgg176
  z80 := Tryz.sizeOf176
  v80 := Tryz.zeroValue176
  i0 := by kernel_rfl
  i2 := by kernel_rfl
  i3 := by kernel_rfl
  i4 := by kernel_rfl
  i5 := by kernel_rfl
  i9 := by kernel_rfl
  i20 := by kernel_rfl
  i21 := by kernel_rfl
  i37 := by kernel_rfl
  i46 := by kernel_rfl
  i51 := by kernel_rfl
  i53 := by kernel_rfl
  i75 := by kernel_rfl
  i80 := by kernel_rfl
  i85 := by kernel_rfl
  i127 := by kernel_rfl
  i143 := by kernel_rfl
  i145 := by kernel_rfl
  i167 := by kernel_rfl
  i168 := by kernel_rfl
  i171 := by kernel_rfl
  i173 := by kernel_rfl
  i175 := by kernel_rfl
  i210 := by kernel_rfl
  i212 := by kernel_rfl
  i232 := by kernel_rfl
  i233 := by kernel_rfl
  m15 := by kernel_rfl
  m16 := by kernel_rfl
  m17 := by kernel_rfl
  m18 := by kernel_rfl
  m19 := by kernel_rfl
  c0 := by kernel_rfl
  c2 := by kernel_rfl
  c3 := by kernel_rfl
  c4 := by kernel_rfl
  c5 := by kernel_rfl
  c9 := by kernel_rfl
  c20 := by kernel_rfl
  c21 := by kernel_rfl
  c37 := by kernel_rfl
  c46 := by kernel_rfl
  c51 := by kernel_rfl
  c53 := by kernel_rfl
  c75 := by kernel_rfl
  c80 := by kernel_rfl
  c85 := by kernel_rfl
  c127 := by kernel_rfl
  c143 := by kernel_rfl
  c145 := by kernel_rfl
  c167 := by kernel_rfl
  c168 := by kernel_rfl
  c171 := by kernel_rfl
  c173 := by kernel_rfl
  c175 := by kernel_rfl
  c210 := by kernel_rfl
  c212 := by kernel_rfl
  c213 := by kernel_rfl
  c232 := by kernel_rfl
  c233 := by kernel_rfl
def lays30_ren : Go.Shelf.Ren := ⟨fun | 173 => 30 | 246 => 47 | 283 => 63 | 284 => 64 | 285 => 65 | 286 => 66 | 129 => 82 | 317 => 81 | 318 => 83 | 319 => 84 | 320 => 85 | 337 => 96 | 338 => 97 | n => n, fun | 2 => 2 | 3 => 3 | 9 => 9 | 4 => 4 | 171 => 103 | 0 => 0 | 53 => 72 | 37 => 56 | 5 => 5 | 173 => 106 | 212 => 118 | 51 => 77 | 20 => 20 | 213 => 119 | 46 => 61 | 232 => 159 | 233 => 160 | n => n, fun | 17 => 3 | 18 => 4 | 19 => 5 | n => n⟩
theorem lays30 : Go.Proofs.LaysM.n173 Tryz.prog lays30_ren where
  mixed := by kernel_rfl
  f129 := Tryz.func82.trans (congrArg some (by kernel_rfl))
  f173 := Tryz.func30.trans (congrArg some (by kernel_rfl))
  f246 := Tryz.func47.trans (congrArg some (by kernel_rfl))
  f283 := Tryz.func63.trans (congrArg some (by kernel_rfl))
  f284 := Tryz.func64.trans (congrArg some (by kernel_rfl))
  f285 := Tryz.func65.trans (congrArg some (by kernel_rfl))
  f286 := Tryz.func66.trans (congrArg some (by kernel_rfl))
  f317 := Tryz.func81.trans (congrArg some (by kernel_rfl))
  f318 := Tryz.func83.trans (congrArg some (by kernel_rfl))
  f319 := Tryz.func84.trans (congrArg some (by kernel_rfl))
  f320 := Tryz.func85.trans (congrArg some (by kernel_rfl))
  f337 := Tryz.func96.trans (congrArg some (by kernel_rfl))
  f338 := Tryz.func97.trans (congrArg some (by kernel_rfl))
  t0 := Tryz.underlying0
  a0 := Tryz.isAgg0
  z0 := Tryz.sizeOf0
  v0 := Tryz.zeroValue0
  t2 := Tryz.underlying2
  a2 := Tryz.isAgg2
  z2 := Tryz.sizeOf2
  v2 := Tryz.zeroValue2
  t3 := Tryz.underlying3
  a3 := Tryz.isAgg3
  z3 := Tryz.sizeOf3
  v3 := Tryz.zeroValue3
  t4 := Tryz.underlying4
  a4 := Tryz.isAgg4
  z4 := Tryz.sizeOf4
  v4 := Tryz.zeroValue4
  t5 := Tryz.underlying5
  a5 := Tryz.isAgg5
  z5 := Tryz.sizeOf5
  v5 := Tryz.zeroValue5
  t9 := Tryz.underlying9
  a9 := Tryz.isAgg9
  z9 := Tryz.sizeOf9
  v9 := Tryz.zeroValue9
  t20 := Tryz.underlying20
  a20 := Tryz.isAgg20
  z20 := Tryz.sizeOf20
  v20 := Tryz.zeroValue20
  t37 := Tryz.underlying56
  a37 := Tryz.isAgg56
  z37 := Tryz.sizeOf56
  v37 := Tryz.zeroValue56
  t46 := Tryz.underlying61
  a46 := Tryz.isAgg61
  z46 := Tryz.sizeOf61
  v46 := Tryz.zeroValue61
  t51 := Tryz.underlying77
  a51 := Tryz.isAgg77
  z51 := Tryz.sizeOf77
  v51 := Tryz.zeroValue77
  t53 := Tryz.underlying72
  a53 := Tryz.isAgg72
  z53 := Tryz.sizeOf72
  v53 := Tryz.zeroValue72
  t171 := Tryz.underlying103
  a171 := Tryz.isAgg103
  z171 := Tryz.sizeOf103
  v171 := Tryz.zeroValue103
  t173 := Tryz.underlying106
  a173 := Tryz.isAgg106
  z173 := Tryz.sizeOf106
  v173 := Tryz.zeroValue106
  t212 := Tryz.underlying118
  a212 := Tryz.isAgg118
  z212 := Tryz.sizeOf118
  v212 := Tryz.zeroValue118
  t213 := Tryz.underlying119
  a213 := Tryz.isAgg119
  z213 := Tryz.sizeOf119
  t232 := Tryz.underlying159
  a232 := Tryz.isAgg159
  z232 := Tryz.sizeOf159
  v232 := Tryz.zeroValue159
  t233 := Tryz.underlying160
  a233 := Tryz.isAgg160
  z233 := Tryz.sizeOf160
  v233 := Tryz.zeroValue160
  g17 := by kernel_rfl
  g18 := by kernel_rfl
  g19 := by kernel_rfl
  i0 := by kernel_rfl
  i2 := by kernel_rfl
  i3 := by kernel_rfl
  i4 := by kernel_rfl
  i5 := by kernel_rfl
  i9 := by kernel_rfl
  i20 := by kernel_rfl
  i37 := by kernel_rfl
  i46 := by kernel_rfl
  i51 := by kernel_rfl
  i53 := by kernel_rfl
  i171 := by kernel_rfl
  i173 := by kernel_rfl
  i212 := by kernel_rfl
  i232 := by kernel_rfl
  i233 := by kernel_rfl
  m17 := by kernel_rfl
  m18 := by kernel_rfl
  m19 := by kernel_rfl
def lays39_ren : Go.Shelf.Ren := ⟨fun | 106 => 39 | 213 => 53 | 265 => 72 | n => n, fun | 9 => 9 | 3 => 3 | n => n, fun | n => n⟩
theorem lays39 : Go.Proofs.Lays.n106 Tryz.prog lays39_ren where
  mixed := by kernel_rfl
  f106 := Tryz.func39.trans (congrArg some (by kernel_rfl))
  f213 := Tryz.func53.trans (congrArg some (by kernel_rfl))
  f265 := Tryz.func72.trans (congrArg some (by kernel_rfl))
  t3 := Tryz.underlying3
  a3 := Tryz.isAgg3
  z3 := Tryz.sizeOf3
  v3 := Tryz.zeroValue3
  t9 := Tryz.underlying9
  a9 := Tryz.isAgg9
  z9 := Tryz.sizeOf9
  v9 := Tryz.zeroValue9
/-- strconv.ErrSyntax and strconv.ErrRange hold an error, or nil. -/
def errOK (w : World) (g : Nat) : Prop := ∃ ev : Value, w.cell? ⟨g, 0, none⟩ = some ev ∧ (ev = .nilIface ∨ ∃ te pe, ev = .iface te pe)
theorem glob3 : Tryz.prog.globalNamed "internal/strconv.uint64pow10" = some 3 := by kernel_rfl
theorem tab_stay {w w' : World} (h : w'.heap[3]? = w.heap[3]?) (ht : Lib.TabIs Tryz.prog w "internal/strconv.uint64pow10" .u64 Lib.pow10Tab) : Lib.TabIs Tryz.prog w' "internal/strconv.uint64pow10" .u64 Lib.pow10Tab := by
  unfold Lib.TabIs World.var? at ht ⊢
  rw [glob3] at ht ⊢
  simp only [Option.bind_some] at ht ⊢
  rw [h]
  exact ht
instance glD : Gl where
  blk k := k = 1 ∨ k = 2 ∨ k = 3
  ok w := (errOK w 1 ∧ errOK w 2) ∧ Lib.TabIs Tryz.prog w "internal/strconv.uint64pow10" .u64 Lib.pow10Tab
  stay w w' h ho := by
    refine ⟨⟨ho.1.1.elim fun ev he => ⟨ev, ?_, he.2⟩, ho.1.2.elim fun ev he => ⟨ev, ?_, he.2⟩⟩, tab_stay (h 3 (.inr (.inr rfl))) ho.2⟩
    · rw [World.cell?_of_block (h 1 (.inl rfl))]; exact he.1
    · rw [World.cell?_of_block (h 2 (.inr (.inl rfl)))]; exact he.1
theorem decF_eq : ∀ (f n : Nat), 0 < f → n < 10 ^ f → decF f n = Lib.decDigits n
  | 0, n, h, _ => absurd h (Nat.lt_irrefl _)
  | f + 1, n, _, hn => by
    rw [decF, Lib.decDigits]
    by_cases h10 : n < 10
    · rw [if_pos h10, dif_pos h10]
    · rw [if_neg h10, dif_neg h10]
      have hp : (10 : Nat) ^ (f + 1) = 10 ^ f * 10 := Nat.pow_succ ..
      have hf : 0 < f := by
        rcases Nat.eq_zero_or_pos f with rfl | hf
        · simp at hn; omega
        · exact hf
      rw [decF_eq f (n / 10) hf (by omega)]
theorem itoaF_eq {n : Int} (h0 : -9223372036854775808 ≤ n) (h1 : n ≤ 9223372036854775807) : itoaF n = Lib.itoa n := by
  unfold itoaF Lib.itoa
  have hp : (10 : Nat) ^ 20 = 100000000000000000000 := by decide
  split
  · rw [decF_eq 20 _ (by decide) (by rw [hp]; omega)]
  · rw [decF_eq 20 _ (by decide) (by rw [hp]; omega)]
theorem two_vals {vs : Array Value} {a b : D} (hl : [a, b].length = vs.size) : ∃ v0 v1, vs = #[v0, v1] := ⟨vs[0]'(by simp at hl; omega), vs[1]'(by simp at hl; omega), by
  refine Array.ext (by simp at hl ⊢; omega) fun i h1 h2 => ?_
  match i, (show i < 2 by simpa using h2) with
  | 0, _ => rfl
  | 1, _ => rfl⟩
theorem fmt_ok : ∀ (args : List D) (h : H) (d : D) (h' : H) (m : M) (w : World) (vs : Array Value), HR m w h → AV m w h.next args vs → fmtA 30 args h = some (d, h') → Calls Tryz.prog 30 vs w fun e w' => ∃ v m', e = .returned v ∧ Eff m w h d v w' h' m' := by
  intro args h d h' m w vs hr hv hc
  unfold fmtA at hc
  split at hc
  · split at hc
    · rename_i n b hcond
      obtain ⟨rfl, h0, h1⟩ := hcond
      cases hc
      obtain ⟨hl, hv⟩ := hv
      obtain ⟨v0, v1, rfl⟩ := two_vals hl
      have q0 := (hv 0 _ v0 rfl rfl).1
      have q1 := (hv 1 _ v1 rfl rfl).1
      cases q0 with
      | t q0 =>
      cases q1 with
      | t q1 =>
      cases q0; cases q1
      refine (Any.strconv_FormatInt_10 lays30 n h0 h1 w hr.glob.1.2).mono fun e w' ⟨he, k, os, hw⟩ => ?_
      subst hw
      refine ⟨_, m, he, .of_below hr ?_ ?_ rfl⟩
      · exact Lib.below_grow _ _ (Nat.le_refl _) _ _
      · rw [itoaF_eq h0 h1]; exact .t (.str _)
    · cases hc
  · cases hc
theorem cmp_ok : ∀ (args : List D) (h : H) (d : D) (h' : H) (m : M) (w : World) (vs : Array Value), HR m w h → AV m w h.next args vs → cmpA 39 args h = some (d, h') → Calls Tryz.prog 39 vs w fun e w' => ∃ v m', e = .returned v ∧ Eff m w h d v w' h' m' := by
  intro args h d h' m w vs hr hv hc
  unfold cmpA at hc
  split at hc
  · cases hc
    obtain ⟨hl, hv⟩ := hv
    obtain ⟨v0, v1, rfl⟩ := two_vals hl
    have q0 := (hv 0 _ v0 rfl rfl).1
    have q1 := (hv 1 _ v1 rfl rfl).1
    cases q0 with
    | t q0 =>
    cases q1 with
    | t q1 =>
    cases q0; cases q1
    refine (Any.strings_Compare lays39 _ _ w).mono fun e w' ⟨he, hw⟩ => ?_
    subst hw
    exact ⟨_, m, he, .of_below hr (Below.refl _ _) (.t (.int _ _)) rfl⟩
  · cases hc
theorem parse_ok : ∀ (args : List D) (h : H) (d : D) (h' : H) (m : M) (w : World) (vs : Array Value), HR m w h → AV m w h.next args vs → parseA 29 args h = some (d, h') → Calls Tryz.prog 29 vs w fun e w' => ∃ v m', e = .returned v ∧ Eff m w h d v w' h' m' := by
  intro args h d h' m w vs hr hv hc
  · unfold parseA at hc
    split at hc
    · rename_i s b z
      split at hc
      · rename_i hcond
        obtain ⟨rfl, rfl, hs⟩ := hcond
        obtain ⟨hl, hv⟩ := hv
        obtain ⟨v0, v1, v2, rfl⟩ : ∃ v0 v1 v2, vs = #[v0, v1, v2] := ⟨vs[0]'(by simp at hl; omega), vs[1]'(by simp at hl; omega), vs[2]'(by simp at hl; omega), by
          refine Array.ext (by simp at hl ⊢; omega) fun i h1 h2 => ?_
          match i, (show i < 3 by simpa using h2) with
          | 0, _ => rfl
          | 1, _ => rfl
          | 2, _ => rfl⟩
        have q0 := (hv 0 _ v0 rfl rfl).1
        have q1 := (hv 1 _ v1 rfl rfl).1
        have q2 := (hv 2 _ v2 rfl rfl).1
        cases q0 with
        | t q0 =>
        cases q1 with
        | t q1 =>
        cases q2 with
        | t q2 =>
        cases q0; cases q1; cases q2
        obtain ⟨⟨e0, g0, k0⟩, ⟨e1, g1, k1⟩⟩ := hr.glob.1.1
        split at hc
        · rename_i v hp
          cases hc
          refine (Any.strconv_ParseInt_10_at64_ok lays29 s (by omega) v hp w).mono fun e w' ⟨he, hw⟩ => ⟨_, m, he, ?_⟩
          have hb : Below w.heap.size w w' := by
            rcases hw with rfl | ⟨t, rfl⟩
            · exact Below.refl _ _
            · exact Lib.bytesWorld_below _ _ _
          refine .of_below hr hb (.tup rfl fun i d' v' hd hv => ?_) rfl
          match i with
          | 0 => simp at hd hv; subst hd; subst hv; exact .t (.int _ _)
          | 1 => simp at hd hv; subst hd; subst hv; exact .t .nilIface
          | i + 2 => simp at hd
        · rename_i hp
          have hcs : d = .tup [.undef, .iface 99 .undef] ∧ h' = h := by
            simp only [Option.some.injEq, Prod.mk.injEq] at hc
            exact ⟨hc.1.symm, hc.2.symm⟩
          obtain ⟨rfl, rfl⟩ := hcs
          have fin : ∀ (x : Value) (N : Nat) (w' : World), Below w.heap.size w w' → Eff m w h' (.tup [.undef, .iface 99 .undef]) (.tuple #[x, .iface 99 (.pointer (some ⟨N, 0, none⟩))]) w' h' m := fun x N w' hb => by
            refine .of_below hr hb (.tup rfl fun i d' v' hd hv => ?_) rfl
            match i with
            | 0 => simp at hd hv; subst hd; subst hv; exact .undef _
            | 1 => simp at hd hv; subst hd; subst hv; exact .iface (.undef _)
            | i + 2 => simp at hd
          rcases hpp : Lib.parseIntB 64 s.data.toList with v | _ | _
          · exact absurd hpp (hp v)
          · refine (Any.strconv_ParseInt_10_at64_syntax lays29 s (by omega) hpp e0 w g0 k0).mono fun e w' ⟨N, he, _, _, hb⟩ => ?_
            exact ⟨_, m, he, fin _ N w' hb⟩
          · refine (Any.strconv_ParseInt_10_at64_range lays29 s (by omega) hpp e1 w g1 k1).mono fun e w' ⟨N, he, _, _, hb⟩ => ?_
            exact ⟨_, m, he, fin _ N w' hb⟩
      · cases hc
    · cases hc
theorem primOK : PrimOK Tryz.prog prim := by
  intro k g hk args h d h' m w vs hr hv hc
  unfold prim at hk
  split at hk
  · rename_i e; subst e; cases hk; exact parse_ok args h d h' m w vs hr hv hc
  · split at hk
    · rename_i e; subst e; cases hk; exact fmt_ok args h d h' m w vs hr hv hc
    · split at hk
      · rename_i e; subst e; cases hk; exact cmp_ok args h d h' m w vs hr hv hc
      · split at hk
        · rename_i e; subst e; cases hk; exact insA_ok args h d h' m w vs hr hv hc
        · cases hk
end Go.Proofs.YtlcbhhmnfmeoeaaGreatDoor

namespace Go.Proofs.YtlcbhhmnfmeoeaaGreatDoor
open Vai
open Go.ChangeShapes Go.WideShapes Go.ChangeAt Go.RowKit

theorem bulk_one {H : Type} (d : DataW H) : 1 ≤ Rows.uptoBulk d := by
  cases d with
  | lit l => cases l <;> simp [Rows.uptoBulk]
  | _ => simp [Rows.uptoBulk]
def bulk (H : Type) : Bulk H where
  b := Rows.uptoBulk
  bs := Rows.uptoBulkAll
  str := fun s => by simp [Rows.uptoBulk]
  lit := fun l => bulk_one _
  nil := bulk_one _
  slice := fun e s => by simp only [Rows.uptoBulk]; omega
  agg := fun p => by simp only [Rows.uptoBulk]; omega
  cons := fun d r => by simp only [Rows.uptoBulkAll]
theorem own : ownKnob Tryz.prog.godebug = none := by kernel_rfl
theorem mixed : Tryz.prog.follows .mixedOrders = true := by kernel_rfl
theorem laid : laidOutB Tryz.prog = true := by kernel_rfl

theorem bulks_len (l : List T) (h : ∀ x ∈ l, 1 ≤ x.bulk) : l.length ≤ T.bulk.bulks l := by
  induction l with
  | nil => simp
  | cons x l ih =>
    have h1 := h x List.mem_cons_self
    have h2 := ih fun y hy => h y (List.mem_cons_of_mem _ hy)
    simp only [T.bulk.bulks, List.length_cons]
    omega

/-- A slice of bytes. -/
theorem has_bytes {x : T} (h : (Sh.slice (.int .u8)).has x) : ∃ l : List UInt8, Slice x (ub l) ∧ l.length ≤ x.bulk := by
  obtain ⟨l, h1, h2⟩ := h
  simp only [Sh.isAgg, Bool.false_eq_true, if_false] at h2
  subst h2
  simp only [Sh.hasL] at h1
  rcases h1 with h1 | ⟨es, h1, h2⟩
  · simp only [List.cons.injEq, and_true] at h1
    subst h1
    exact ⟨[], .nil, Nat.zero_le _⟩
  · simp only [List.cons.injEq, and_true] at h1
    subst h1
    have key : ∀ es : List T, (∀ y ∈ es, ∃ l', (∃ n, l' = [T.int .u8 n] ∧ IntKind.u8.min ≤ n ∧ n ≤ IntKind.u8.max) ∧ l' = [y]) → ∃ l : List UInt8, es = ub l ∧ l.length ≤ T.bulk.bulks es := by
      intro es
      induction es with
      | nil => intro _; exact ⟨[], rfl, by simp⟩
      | cons y es ih =>
        intro h
        obtain ⟨l, rfl, hl⟩ := ih fun z hz => h z (List.mem_cons_of_mem _ hz)
        obtain ⟨_, ⟨n, rfl, h3, h4⟩, h5⟩ := h y List.mem_cons_self
        cases h5
        have h3 : 0 ≤ n := h3
        have h4 : n ≤ 255 := h4
        refine ⟨u8 n :: l, ?_, ?_⟩
        · simp only [ub, List.map_cons, List.cons.injEq, T.int.injEq, true_and, and_true]
          rw [u8_toNat]
          omega
        · simp only [T.bulk.bulks, T.bulk, List.length_cons]
          omega
    obtain ⟨l, rfl, hl⟩ := key es (by simpa [Sh.isAgg] using h2)
    exact ⟨l, .mk, by simp only [T.bulk]; omega⟩

theorem has_str {x : T} (h : Sh.str.has x) : ∃ s : ByteArray, x = .str s ∧ s.size ≤ x.bulk := by
  obtain ⟨l, ⟨s, rfl⟩, h2⟩ := h
  simp [Sh.isAgg] at h2
  subst h2
  exact ⟨s, rfl, by simp [T.bulk]⟩
theorem has_int {k : IntKind} {x : T} (h : (Sh.int k).has x) : ∃ n, x = .int k n ∧ k.min ≤ n ∧ n ≤ k.max := by
  obtain ⟨l, ⟨n, rfl, h1⟩, h2⟩ := h
  simp [Sh.isAgg] at h2
  exact ⟨n, h2.symm, h1⟩
theorem has_bool {x : T} (h : Sh.bool.has x) : ∃ b, x = .bool b := by
  obtain ⟨l, ⟨s, rfl⟩, h2⟩ := h
  simp [Sh.isAgg] at h2
  exact ⟨s, h2.symm⟩

theorem bulk_bs {H : Type} (l : List (DataW H)) {n : Nat} (h : Rows.uptoBulkAll l ≤ n) : (bulk H).bs l ≤ n := h
theorem small_le {H : Type} {l : List (DataW H)} (hk : Rows.uptoSmall H l = true) : (bulk H).bs l ≤ 1048576 := by
  unfold Rows.uptoSmall at hk
  exact bulk_bs l (of_decide_eq_true hk)
theorem has_slice {e : Sh} {x : T} (h : (Sh.slice e).has x) : x = .nilSlice ∨ ∃ es, x = .slice es ∧ ∀ y ∈ es, e.has y := by
  obtain ⟨l, h1, h2⟩ := h
  simp only [Sh.isAgg, Bool.false_eq_true, if_false] at h2
  subst h2
  simp only [Sh.hasL] at h1
  rcases h1 with h1 | ⟨es, h1, h2⟩
  · simp only [List.cons.injEq, and_true] at h1
    exact .inl h1
  · simp only [List.cons.injEq, and_true] at h1
    exact .inr ⟨es, h1, h2⟩
theorem list_dec {α : Type} {enc : α → T} {p : α → Prop} : ∀ {es : List T}, (∀ y ∈ es, ∃ a, y = enc a ∧ p a) → ∃ l : List α, es = l.map enc ∧ ∀ a ∈ l, p a
  | [], _ => ⟨[], rfl, fun a h => by cases h⟩
  | y :: es, h => by
    obtain ⟨a, rfl, ha⟩ := h y List.mem_cons_self
    obtain ⟨l, rfl, hl⟩ := list_dec (es := es) fun z hz => h z (List.mem_cons_of_mem _ hz)
    exact ⟨a :: l, rfl, fun b hb => by
      rcases List.mem_cons.1 hb with rfl | hb
      · exact ha
      · exact hl b hb⟩
theorem has_slice_dec {e : Sh} {x : T} {α : Type} {enc : α → T} {p : α → Prop} (h : (Sh.slice e).has x) (hd : ∀ y, e.has y → ∃ a, y = enc a ∧ p a) : ∃ l : List α, Slice x (l.map enc) ∧ (∀ a ∈ l, p a) ∧ T.bulk.bulks (l.map enc) ≤ x.bulk := by
  rcases has_slice h with rfl | ⟨es, rfl, hes⟩
  · exact ⟨[], .nil, (fun a h => by cases h), by simp [T.bulk.bulks]⟩
  · obtain ⟨l, rfl, hl⟩ := list_dec (es := es) fun y hy => hd y (hes y hy)
    exact ⟨l, .mk, hl, by simp only [T.bulk]; omega⟩
/-- The parts of a struct. -/
theorem has_agg {ss : List Sh} {x : T} (h : (Sh.agg ss).has x) : ∃ l, x = .agg l ∧ Sh.hasL.hasLs ss l := by
  obtain ⟨l, h1, h2⟩ := h
  simp only [Sh.isAgg, if_true] at h2
  exact ⟨l, h2, by simpa [Sh.hasL] using h1⟩

/-! the variables that the rows list -/
theorem starE : "*" ++ "errors.errorString" = "*errors.errorString" := by decide
theorem rowE (u : TypeId) (h : Tryz.prog.typeName? 3 u = some "*errors.errorString") : u = 141 :=
  typeName_ptr_named (nm := "errors.errorString") (by rw [starE]; kernel_rfl) (by kernel_rfl) (by decide) u (by rw [starE]; exact h)
theorem laid_glob {W : World} (h : laidMetH Tryz.prog Rows.valueVarsUptoRow.laid W) : Gl.ok W ∧ ∀ k, Gl.blk k → k < W.heap.size := by
  have hL : laidMet Tryz.prog Rows.valueVarsUptoRow.laid W := h
  have h3 := hL.tail.tail.tail
  obtain ⟨a1, t1, hv1, _⟩ := laid_sentinel (g := 2) h3 (by kernel_rfl) (by kernel_rfl) Tryz.underlying50 rowE Tryz.underlying141 Tryz.underlying143 rfl rfl Tryz.underlying9 (by kernel_rfl) (by kernel_rfl)
  obtain ⟨a0, t0, hv0, _⟩ := laid_sentinel (g := 1) h3.tail (by kernel_rfl) (by kernel_rfl) Tryz.underlying50 rowE Tryz.underlying141 Tryz.underlying143 rfl rfl Tryz.underlying9 (by kernel_rfl) (by kernel_rfl)
  have c1 := World.var?_cell (g := 2) (by kernel_rfl) hv1 0
  have c0 := World.var?_cell (g := 1) (by kernel_rfl) hv0 0
  have ht : Lib.TabIs Tryz.prog W "internal/strconv.uint64pow10" .u64 Lib.pow10Tab := Lib.tabIs_of_head (g := 3) (t := 118) (e := 72) (n := 20) glob3 (by kernel_rfl) Tryz.underlying118 Tryz.underlying72 (by kernel_rfl) (by kernel_rfl) hL.tail.tail
  have c3 := ht.cell glob3 0 (by decide)
  have lt : ∀ g v, W.cell? ⟨g, 0, none⟩ = some v → g < W.heap.size := fun g v hc => by
    rcases Nat.lt_or_ge g W.heap.size with h' | h'
    · exact h'
    · simp [World.cell?, Array.getElem?_eq_none h'] at hc
  refine ⟨⟨⟨⟨_, c0, .inr ⟨_, _, rfl⟩⟩, ⟨_, c1, .inr ⟨_, _, rfl⟩⟩⟩, ht⟩, ?_⟩
  rintro k (rfl | rfl | rfl)
  · exact lt _ _ c0
  · exact lt _ _ c1
  · exact lt _ _ c3

/-- A world that holds the variables. -/
noncomputable def laidWorld (os : Os) : World :=
  let N := (World.settled Tryz.prog os).heap.size
  let w0 := World.holding Tryz.prog os ⟨#[.cells #[.string ⟨#[105, 110, 118, 97, 108, 105, 100, 32, 115, 121, 110, 116, 97, 120]⟩] 143, .cells #[.string ⟨#[118, 97, 108, 117, 101, 32, 111, 117, 116, 32, 111, 102, 32, 114, 97, 110, 103, 101]⟩] 143], #[], []⟩
  let put (h : Array Obj) (g : Nat) (cs : Array Value) : Array Obj := h.modify g fun
    | .cells _ t frozen => .cells cs t frozen
    | o => o
  let h0 := put (put w0.heap 1 #[.iface 141 (.pointer (some ⟨N, 0, none⟩))]) 2 #[.iface 141 (.pointer (some ⟨N + 1, 0, none⟩))]
  let h1 := put h0 3 #[.int .u64 1, .int .u64 10, .int .u64 100, .int .u64 1000, .int .u64 10000, .int .u64 100000, .int .u64 1000000, .int .u64 10000000, .int .u64 100000000, .int .u64 1000000000, .int .u64 10000000000, .int .u64 100000000000, .int .u64 1000000000000, .int .u64 10000000000000, .int .u64 100000000000000, .int .u64 1000000000000000, .int .u64 10000000000000000, .int .u64 100000000000000000, .int .u64 1000000000000000000, .int .u64 10000000000000000000]
  let h2 := put h1 4 #[.int .u8 0, .int .u8 1, .int .u8 28, .int .u8 2, .int .u8 29, .int .u8 14, .int .u8 24, .int .u8 3, .int .u8 30, .int .u8 22, .int .u8 20, .int .u8 15, .int .u8 25, .int .u8 17, .int .u8 4, .int .u8 8, .int .u8 31, .int .u8 27, .int .u8 13, .int .u8 23, .int .u8 21, .int .u8 19, .int .u8 16, .int .u8 7, .int .u8 26, .int .u8 12, .int .u8 18, .int .u8 6, .int .u8 11, .int .u8 5, .int .u8 10, .int .u8 9]
  let h3 := put h2 5 #[.int .u8 0, .int .u8 1, .int .u8 56, .int .u8 2, .int .u8 57, .int .u8 49, .int .u8 28, .int .u8 3, .int .u8 61, .int .u8 58, .int .u8 42, .int .u8 50, .int .u8 38, .int .u8 29, .int .u8 17, .int .u8 4, .int .u8 62, .int .u8 47, .int .u8 59, .int .u8 36, .int .u8 45, .int .u8 43, .int .u8 51, .int .u8 22, .int .u8 53, .int .u8 39, .int .u8 33, .int .u8 30, .int .u8 24, .int .u8 18, .int .u8 12, .int .u8 5, .int .u8 63, .int .u8 55, .int .u8 48, .int .u8 27, .int .u8 60, .int .u8 41, .int .u8 37, .int .u8 16, .int .u8 46, .int .u8 35, .int .u8 44, .int .u8 21, .int .u8 52, .int .u8 32, .int .u8 23, .int .u8 11, .int .u8 54, .int .u8 26, .int .u8 40, .int .u8 15, .int .u8 34, .int .u8 20, .int .u8 31, .int .u8 10, .int .u8 25, .int .u8 14, .int .u8 19, .int .u8 9, .int .u8 13, .int .u8 8, .int .u8 7, .int .u8 6]
  { w0 with heap := h3 }
noncomputable abbrev N0 : Nat := (World.settled Tryz.prog default).heap.size
set_option maxRecDepth 100000 in
theorem laid_met (os : Os) (args : Array Value) : laidMet Tryz.prog Rows.valueVarsUptoRow.laid ((laidWorld os).forCall (fun _ _ => 0) ⟨#[], args, []⟩).memory :=
  (LaidIn.of_run [4, 5, 3, 2, N0 + 1, 1, N0] 8 (by kernel_rfl) (by kernel_rfl) (by kernel_rfl) (by kernel_rfl)).met
end Go.Proofs.YtlcbhhmnfmeoeaaGreatDoor
