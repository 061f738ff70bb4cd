import Derived.Test.YtaldobgfbkllfaaGreatDoorVaiD
import Derived.Test.YtaldobgfbkllfaaGreatDoorVaiSc
import Derived.Test.YtaldobgfbkllfaaGreatDoorCards
import Derived.Test.YtaldobgfbkllfaaGreatDoorTie
import Derived.WalkKit
import Derived.ProofKit
import Derived.OpenShut
import Derived.JoinedCond
import Derived.Deep.DeepHandedRow
import Derived.Deep.DeepWitnessRowRef
import Derived.Lib.LaidIn
import Derived.Lib.LaidTab
import Derived.Stop.LaidErr
import Derived.Test.YtaldobgfbkllfaaGreatDoorVaiSn
set_option linter.unusedSimpArgs false
set_option linter.unusedVariables false
set_option linter.unusedSectionVars false
namespace Go.Proofs.YtaldobgfbkllfaaGreatDoor
open Vai
open Go.ChangeShapes Go.WideShapes Go.ChangeAt Go.RowKit
theorem bulk_one {H : Type} (d : DataW H) : 1 ≤ Rows.uptoBulk d := by
  cases d with
  | lit l => cases l <;> simp [Rows.uptoBulk]
  | _ => simp [Rows.uptoBulk]
def bulk (H : Type) : Bulk H where
  b := Rows.uptoBulk
  bs := Rows.uptoBulkAll
  str := fun s => by simp [Rows.uptoBulk]
  lit := fun l => bulk_one _
  nil := bulk_one _
  slice := fun e s => by simp only [Rows.uptoBulk]; omega
  agg := fun p => by simp only [Rows.uptoBulk]; omega
  cons := fun d r => by simp only [Rows.uptoBulkAll]
theorem own : ownKnob Tryz.prog.godebug = none := by kernel_rfl
theorem mixed : Tryz.prog.follows .mixedOrders = true := by kernel_rfl
theorem laid : laidOutB Tryz.prog = true := by kernel_rfl
theorem bulk_bs {H : Type} (l : List (DataW H)) {n : Nat} (h : Rows.uptoBulkAll l ≤ n) : (bulk H).bs l ≤ n := h
theorem small_le {H : Type} {l : List (DataW H)} (hk : Rows.uptoSmall H l = true) : (bulk H).bs l ≤ 1048576 := by
  unfold Rows.uptoSmall at hk
  exact bulk_bs l (of_decide_eq_true hk)
theorem has_slice {e : Sh} {x : T} (h : (Sh.slice e).has x) : x = .nilSlice ∨ ∃ es, x = .slice es ∧ ∀ y ∈ es, e.has y := by
  obtain ⟨l, h1, h2⟩ := h
  simp only [Sh.isAgg, Bool.false_eq_true, if_false] at h2
  subst h2
  simp only [Sh.hasL] at h1
  rcases h1 with h1 | ⟨es, h1, h2⟩
  · simp only [List.cons.injEq, and_true] at h1
    exact .inl h1
  · simp only [List.cons.injEq, and_true] at h1
    exact .inr ⟨es, h1, h2⟩
theorem list_dec {α : Type} {enc : α → T} {p : α → Prop} : ∀ {es : List T}, (∀ y ∈ es, ∃ a, y = enc a ∧ p a) → ∃ l : List α, es = l.map enc ∧ ∀ a ∈ l, p a
  | [], _ => ⟨[], rfl, fun a h => by cases h⟩
  | y :: es, h => by
    obtain ⟨a, rfl, ha⟩ := h y List.mem_cons_self
    obtain ⟨l, rfl, hl⟩ := list_dec (es := es) fun z hz => h z (List.mem_cons_of_mem _ hz)
    exact ⟨a :: l, rfl, fun b hb => by
      rcases List.mem_cons.1 hb with rfl | hb
      · exact ha
      · exact hl b hb⟩
theorem has_slice_dec {e : Sh} {x : T} {α : Type} {enc : α → T} {p : α → Prop} (h : (Sh.slice e).has x) (hd : ∀ y, e.has y → ∃ a, y = enc a ∧ p a) : ∃ l : List α, Slice x (l.map enc) ∧ (∀ a ∈ l, p a) ∧ T.bulk.bulks (l.map enc) ≤ x.bulk := by
  rcases has_slice h with rfl | ⟨es, rfl, hes⟩
  · exact ⟨[], .nil, (fun a h => by cases h), by simp [T.bulk.bulks]⟩
  · obtain ⟨l, rfl, hl⟩ := list_dec (es := es) fun y hy => hd y (hes y hy)
    exact ⟨l, .mk, hl, by simp only [T.bulk]; omega⟩
theorem has_agg {ss : List Sh} {x : T} (h : (Sh.agg ss).has x) : ∃ l, x = .agg l ∧ Sh.hasL.hasLs ss l := by
  obtain ⟨l, h1, h2⟩ := h
  simp only [Sh.isAgg, if_true] at h2
  exact ⟨l, h2, by simpa [Sh.hasL] using h1⟩
theorem starE : "*" ++ "errors.errorString" = "*errors.errorString" := by decide
theorem rowE (u : TypeId) (h : Tryz.prog.typeName? 3 u = some "*errors.errorString") : u = 264 :=
  typeName_ptr_named (nm := "errors.errorString") (by rw [starE]; kernel_rfl) (by kernel_rfl) (by decide) u (by rw [starE]; exact h)
@[reducible] def gl0 : GlY where
  blk k := k = 4 ∨ k = 5 ∨ k = 3
  ok w := (errOK w 4 ∧ errOK w 5) ∧ Lib.TabIs Tryz.prog w "internal/strconv.uint64pow10" .u64 Lib.pow10Tab
  stay w w' h ho := by
    refine ⟨⟨ho.1.1.elim fun ev he => ⟨ev, ?_, he.2⟩, ho.1.2.elim fun ev he => ⟨ev, ?_, he.2⟩⟩, tab_stay (h 3 (.inr (.inr rfl))) ho.2⟩
    · rw [World.cell?_of_block (h 4 (.inl rfl))]; exact he.1
    · rw [World.cell?_of_block (h 5 (.inr (.inl rfl)))]; exact he.1
  tree _ := none
  trees _ _ _ _ h := by cases h
  base _ h := h
theorem cell_ok {W : World} {g : Nat} {v : Value} (hc : W.cell? ⟨g, 0, none⟩ = some v) : g < W.heap.size := by
  rcases Nat.lt_or_ge g W.heap.size with h' | h'
  · exact h'
  · simp [World.cell?, Array.getElem?_eq_none h'] at hc
theorem laid_glob {W : World} (h : laidMetH Tryz.prog Rows.evalNumbersUptoRow.laid W) : gl0.ok W ∧ ∀ k, gl0.blk k → k < W.heap.size := by
  have hL : laidMet Tryz.prog Rows.evalNumbersUptoRow.laid W := h
  have h3 := hL.tail.tail.tail
  obtain ⟨a1, t1, hv1, _⟩ := laid_sentinel (g := 5) h3 (by kernel_rfl) (by kernel_rfl) Tryz.underlying181 rowE Tryz.underlying264 Tryz.underlying266 rfl rfl Tryz.underlying9 (by kernel_rfl) (by kernel_rfl)
  obtain ⟨a0, t0, hv0, _⟩ := laid_sentinel (g := 4) h3.tail (by kernel_rfl) (by kernel_rfl) Tryz.underlying181 rowE Tryz.underlying264 Tryz.underlying266 rfl rfl Tryz.underlying9 (by kernel_rfl) (by kernel_rfl)
  have c1 := World.var?_cell (g := 5) (by kernel_rfl) hv1 0
  have c0 := World.var?_cell (g := 4) (by kernel_rfl) hv0 0
  have ht : Lib.TabIs Tryz.prog W "internal/strconv.uint64pow10" .u64 Lib.pow10Tab := Lib.tabIs_of_head (g := 3) (t := 225) (e := 170) (n := 20) glob3 (by kernel_rfl) Tryz.underlying225 Tryz.underlying170 (by kernel_rfl) (by kernel_rfl) hL.tail.tail
  have c3 := ht.cell glob3 0 (by decide)
  refine ⟨⟨⟨⟨_, c0, .inr ⟨_, _, rfl⟩⟩, ⟨_, c1, .inr ⟨_, _, rfl⟩⟩⟩, ht⟩, ?_⟩
  rintro k (rfl | rfl | rfl)
  · exact cell_ok c0
  · exact cell_ok c1
  · exact cell_ok c3
noncomputable def laidWorld (os : Os) : World :=
  let N := (World.settled Tryz.prog os).heap.size
  let w0 := World.holding Tryz.prog os ⟨#[.cells #[.string ⟨#[105, 110, 118, 97, 108, 105, 100, 32, 115, 121, 110, 116, 97, 120]⟩] 266, .cells #[.string ⟨#[118, 97, 108, 117, 101, 32, 111, 117, 116, 32, 111, 102, 32, 114, 97, 110, 103, 101]⟩] 266], #[], []⟩
  let put (h : Array Obj) (g : Nat) (cs : Array Value) : Array Obj := h.modify g fun
    | .cells _ t frozen => .cells cs t frozen
    | o => o
  let h0 := put (put w0.heap 4 #[.iface 264 (.pointer (some ⟨N, 0, none⟩))]) 5 #[.iface 264 (.pointer (some ⟨N + 1, 0, none⟩))]
  let h1 := put h0 3 #[.int .u64 1, .int .u64 10, .int .u64 100, .int .u64 1000, .int .u64 10000, .int .u64 100000, .int .u64 1000000, .int .u64 10000000, .int .u64 100000000, .int .u64 1000000000, .int .u64 10000000000, .int .u64 100000000000, .int .u64 1000000000000, .int .u64 10000000000000, .int .u64 100000000000000, .int .u64 1000000000000000, .int .u64 10000000000000000, .int .u64 100000000000000000, .int .u64 1000000000000000000, .int .u64 10000000000000000000]
  let h2 := put h1 6 #[.int .u8 0, .int .u8 1, .int .u8 28, .int .u8 2, .int .u8 29, .int .u8 14, .int .u8 24, .int .u8 3, .int .u8 30, .int .u8 22, .int .u8 20, .int .u8 15, .int .u8 25, .int .u8 17, .int .u8 4, .int .u8 8, .int .u8 31, .int .u8 27, .int .u8 13, .int .u8 23, .int .u8 21, .int .u8 19, .int .u8 16, .int .u8 7, .int .u8 26, .int .u8 12, .int .u8 18, .int .u8 6, .int .u8 11, .int .u8 5, .int .u8 10, .int .u8 9]
  let h3 := put h2 7 #[.int .u8 0, .int .u8 1, .int .u8 56, .int .u8 2, .int .u8 57, .int .u8 49, .int .u8 28, .int .u8 3, .int .u8 61, .int .u8 58, .int .u8 42, .int .u8 50, .int .u8 38, .int .u8 29, .int .u8 17, .int .u8 4, .int .u8 62, .int .u8 47, .int .u8 59, .int .u8 36, .int .u8 45, .int .u8 43, .int .u8 51, .int .u8 22, .int .u8 53, .int .u8 39, .int .u8 33, .int .u8 30, .int .u8 24, .int .u8 18, .int .u8 12, .int .u8 5, .int .u8 63, .int .u8 55, .int .u8 48, .int .u8 27, .int .u8 60, .int .u8 41, .int .u8 37, .int .u8 16, .int .u8 46, .int .u8 35, .int .u8 44, .int .u8 21, .int .u8 52, .int .u8 32, .int .u8 23, .int .u8 11, .int .u8 54, .int .u8 26, .int .u8 40, .int .u8 15, .int .u8 34, .int .u8 20, .int .u8 31, .int .u8 10, .int .u8 25, .int .u8 14, .int .u8 19, .int .u8 9, .int .u8 13, .int .u8 8, .int .u8 7, .int .u8 6]
  { w0 with heap := h3 }
noncomputable abbrev N0 : Nat := (World.settled Tryz.prog default).heap.size
set_option maxRecDepth 100000 in
theorem laid_met (os : Os) (args : Array Value) : laidMet Tryz.prog Rows.evalNumbersUptoRow.laid ((laidWorld os).forCall (fun _ _ => 0) ⟨#[], args, []⟩).memory :=
  (LaidIn.of_run [6, 7, 3, 5, N0 + 1, 4, N0] 8 (by kernel_rfl) (by kernel_rfl) (by kernel_rfl) (by kernel_rfl)).met
end Go.Proofs.YtaldobgfbkllfaaGreatDoor

namespace Go.Proofs.YtaldobgfbkllfaaGreatDoor
open Vai
abbrev uSh : Sh := .agg [.int .i64, .int .i64, .str]
abbrev vSh : Sh := .agg [.str, .agg [.int .i64, .int .i64, .str]]
abbrev dSh : Sh := .agg [.str, .int .i64]
abbrev pSh : Sh := .agg [.int .i64, .int .i64, .int .i64, .int .i64, .agg [.int .i64, .int .i64, .str], .str, .int .i64]
theorem var_dec {y : T} (h : vSh.has y) : ∃ v : WV, y = varW v ∧ (-9223372036854775808 ≤ v.2.2.1 ∧ v.2.2.1 ≤ 9223372036854775807) := by
  obtain ⟨l, rfl, _, _, rfl, ⟨a, rfl⟩, _, _, rfl, ⟨_, _, rfl, ⟨k, rfl, _⟩, _, _, rfl, ⟨n, rfl, hn⟩, _, _, rfl, ⟨t, rfl⟩, rfl⟩, rfl⟩ := has_agg h
  exact ⟨(a, k, n, t), rfl, hn⟩
theorem part_dec {y : T} (h : pSh.has y) : ∃ p : PT, y = prP p ∧ (-9223372036854775808 ≤ p.vn ∧ p.vn ≤ 9223372036854775807) := by
  obtain ⟨l, rfl, _, _, rfl, ⟨k, rfl, _⟩, _, _, rfl, ⟨a, rfl, _⟩, _, _, rfl, ⟨b, rfl, _⟩, _, _, rfl, ⟨c, rfl, _⟩, _, _, rfl, ⟨_, _, rfl, ⟨vk, rfl, _⟩, _, _, rfl, ⟨vn, rfl, hn⟩, _, _, rfl, ⟨s, rfl⟩, rfl⟩, _, _, rfl, ⟨nm, rfl⟩, _, _, rfl, ⟨at_, rfl, _⟩, rfl⟩ := has_agg h
  exact ⟨⟨k, a, b, c, vk, vn, s, nm, at_⟩, rfl, hn⟩
theorem var_bulk (l : List WV) : l.length ≤ T.bulk.bulks (l.map varW) ∧ ∀ v ∈ l, v.1.size ≤ T.bulk.bulks (l.map varW) ∧ v.2.2.2.size ≤ T.bulk.bulks (l.map varW) := by
  induction l with
  | nil => simp [T.bulk.bulks]
  | cons f l ih =>
    obtain ⟨h1, h3⟩ := ih
    simp only [List.map_cons, T.bulk.bulks, T.bulk, List.length_cons]
    refine ⟨by omega, fun v hv => ?_⟩
    rcases List.mem_cons.1 hv with rfl | hv
    · omega
    · have := h3 v hv
      omega
theorem part_bulk (l : List PT) : l.length ≤ T.bulk.bulks (l.map prP) ∧ ∀ v ∈ l, v.s.size ≤ T.bulk.bulks (l.map prP) ∧ v.nm.size ≤ T.bulk.bulks (l.map prP) := by
  induction l with
  | nil => simp [T.bulk.bulks]
  | cons f l ih =>
    obtain ⟨h1, h3⟩ := ih
    simp only [List.map_cons, T.bulk.bulks, T.bulk, List.length_cons]
    refine ⟨by omega, fun v hv => ?_⟩
    rcases List.mem_cons.1 hv with rfl | hv
    · omega
    · have := h3 v hv
      omega
theorem get_ok {vl : List WV} (h1 : ∀ v ∈ vl, (-9223372036854775808 ≤ v.2.2.1 ∧ v.2.2.1 ≤ 9223372036854775807)) (h2 : ∀ v ∈ vl, v.2.2.2.size ≤ 1000000000) (nm : ByteArray) : OKV (getV vl nm) := by
  unfold getV
  cases hw : getW vl nm with
  | none => exact okz
  | some w =>
    have hm := List.mem_of_find?_eq_some hw
    exact ⟨(h1 w hm).1, (h1 w hm).2, h2 w hm⟩
end Go.Proofs.YtaldobgfbkllfaaGreatDoor

namespace Go.Proofs.YtaldobgfbkllfaaGreatDoor
open Vai
instance glN : GlY := gl0
theorem answers3 : Answers cx prim 3 [.slice pSh, .slice vSh] 1048576 := by
  rintro xs hxs hb
  obtain ⟨x1, _, rfl, h1, x2, _, rfl, h2, rfl⟩ := hxs
  obtain ⟨ps, hps, hpn, hbl⟩ := has_slice_dec h1 fun y => part_dec
  obtain ⟨vl, hvs, hvn, hbv⟩ := has_slice_dec h2 fun y => var_dec
  have b1 := part_bulk ps
  have b2 := var_bulk vl
  simp only [T.bulk.bulks] at hb
  obtain ⟨h', hc⟩ := law3 hps hvs ⟨by omega, fun v hv => by have := b2.2 v hv; omega⟩ ⟨fun p hp => ⟨(hpn p hp).1, (hpn p hp).2, by have := (b1.2 p hp).1; show p.s.size ≤ 1000000000; omega⟩, get_ok hvn fun v hv => by have := (b2.2 v hv).2; omega⟩ (by omega)
  obtain ⟨k, hk⟩ := call_some.1 hc
  exact ⟨k, h', hk⟩
end Go.Proofs.YtaldobgfbkllfaaGreatDoor
