import Derived.Test.YtccajagfgdchlaaVaiD
import Derived.Test.YtccajagfgdchlaaTryCx
import Derived.WalkKit
import Derived.ProofKit
import Derived.OpenShut
import Derived.JoinedCond
set_option linter.unusedSimpArgs false
set_option linter.unusedVariables false
set_option linter.unusedSectionVars false
namespace Go.Proofs.Ytccajagfgdchlaa
open Vai
open Go.ChangeShapes Go.WideShapes Go.ChangeAt Go.RowKit

theorem bulk_one {H : Type} (d : DataW H) : 1 ≤ Rows.uptoBulk d := by
  cases d with
  | lit l => cases l <;> simp [Rows.uptoBulk]
  | _ => simp [Rows.uptoBulk]
def bulk (H : Type) : Bulk H where
  b := Rows.uptoBulk
  bs := Rows.uptoBulkAll
  str := fun s => by simp [Rows.uptoBulk]
  lit := fun l => bulk_one _
  nil := bulk_one _
  slice := fun e s => by simp only [Rows.uptoBulk]; omega
  agg := fun p => by simp only [Rows.uptoBulk]; omega
  cons := fun d r => by simp only [Rows.uptoBulkAll]
theorem own : ownKnob Try.prog.godebug = none := by kernel_rfl
theorem mixed : Try.prog.follows .mixedOrders = true := by kernel_rfl
theorem laid : laidOutB Try.prog = true := by kernel_rfl
theorem primOK : PrimOK Try.prog prim := fun k g h => by cases h

theorem bulks_len (l : List T) (h : ∀ x ∈ l, 1 ≤ x.bulk) : l.length ≤ T.bulk.bulks l := by
  induction l with
  | nil => simp
  | cons x l ih =>
    have h1 := h x List.mem_cons_self
    have h2 := ih fun y hy => h y (List.mem_cons_of_mem _ hy)
    simp only [T.bulk.bulks, List.length_cons]
    omega

/-- A slice of bytes. -/
theorem has_bytes {x : T} (h : (Sh.slice (.int .u8)).has x) : ∃ l : List UInt8, Slice x (ub l) ∧ l.length ≤ x.bulk := by
  obtain ⟨l, h1, h2⟩ := h
  simp only [Sh.isAgg, Bool.false_eq_true, if_false] at h2
  subst h2
  simp only [Sh.hasL] at h1
  rcases h1 with h1 | ⟨es, h1, h2⟩
  · simp only [List.cons.injEq, and_true] at h1
    subst h1
    exact ⟨[], .nil, Nat.zero_le _⟩
  · simp only [List.cons.injEq, and_true] at h1
    subst h1
    have key : ∀ es : List T, (∀ y ∈ es, ∃ l', (∃ n, l' = [T.int .u8 n] ∧ IntKind.u8.min ≤ n ∧ n ≤ IntKind.u8.max) ∧ l' = [y]) → ∃ l : List UInt8, es = ub l ∧ l.length ≤ T.bulk.bulks es := by
      intro es
      induction es with
      | nil => intro _; exact ⟨[], rfl, by simp⟩
      | cons y es ih =>
        intro h
        obtain ⟨l, rfl, hl⟩ := ih fun z hz => h z (List.mem_cons_of_mem _ hz)
        obtain ⟨_, ⟨n, rfl, h3, h4⟩, h5⟩ := h y List.mem_cons_self
        cases h5
        have h3 : 0 ≤ n := h3
        have h4 : n ≤ 255 := h4
        refine ⟨u8 n :: l, ?_, ?_⟩
        · simp only [ub, List.map_cons, List.cons.injEq, T.int.injEq, true_and, and_true]
          rw [u8_toNat]
          omega
        · simp only [T.bulk.bulks, T.bulk, List.length_cons]
          omega
    obtain ⟨l, rfl, hl⟩ := key es (by simpa [Sh.isAgg] using h2)
    exact ⟨l, .mk, by simp only [T.bulk]; omega⟩

theorem has_str {x : T} (h : Sh.str.has x) : ∃ s : ByteArray, x = .str s ∧ s.size ≤ x.bulk := by
  obtain ⟨l, ⟨s, rfl⟩, h2⟩ := h
  simp [Sh.isAgg] at h2
  subst h2
  exact ⟨s, rfl, by simp [T.bulk]⟩
theorem has_int {k : IntKind} {x : T} (h : (Sh.int k).has x) : ∃ n, x = .int k n ∧ k.min ≤ n ∧ n ≤ k.max := by
  obtain ⟨l, ⟨n, rfl, h1⟩, h2⟩ := h
  simp [Sh.isAgg] at h2
  exact ⟨n, h2.symm, h1⟩
theorem has_bool {x : T} (h : Sh.bool.has x) : ∃ b, x = .bool b := by
  obtain ⟨l, ⟨s, rfl⟩, h2⟩ := h
  simp [Sh.isAgg] at h2
  exact ⟨s, h2.symm⟩

theorem bulk_bs {H : Type} (l : List (DataW H)) {n : Nat} (h : Rows.uptoBulkAll l ≤ n) : (bulk H).bs l ≤ n := h
theorem small_le {H : Type} {l : List (DataW H)} (hk : Rows.uptoSmall H l = true) : (bulk H).bs l ≤ 1048576 := by
  unfold Rows.uptoSmall at hk
  exact bulk_bs l (of_decide_eq_true hk)
theorem has_slice {e : Sh} {x : T} (h : (Sh.slice e).has x) : x = .nilSlice ∨ ∃ es, x = .slice es ∧ ∀ y ∈ es, e.has y := by
  obtain ⟨l, h1, h2⟩ := h
  simp only [Sh.isAgg, Bool.false_eq_true, if_false] at h2
  subst h2
  simp only [Sh.hasL] at h1
  rcases h1 with h1 | ⟨es, h1, h2⟩
  · simp only [List.cons.injEq, and_true] at h1
    exact .inl h1
  · simp only [List.cons.injEq, and_true] at h1
    exact .inr ⟨es, h1, h2⟩
theorem list_dec {α : Type} {enc : α → T} {p : α → Prop} : ∀ {es : List T}, (∀ y ∈ es, ∃ a, y = enc a ∧ p a) → ∃ l : List α, es = l.map enc ∧ ∀ a ∈ l, p a
  | [], _ => ⟨[], rfl, fun a h => by cases h⟩
  | y :: es, h => by
    obtain ⟨a, rfl, ha⟩ := h y List.mem_cons_self
    obtain ⟨l, rfl, hl⟩ := list_dec (es := es) fun z hz => h z (List.mem_cons_of_mem _ hz)
    exact ⟨a :: l, rfl, fun b hb => by
      rcases List.mem_cons.1 hb with rfl | hb
      · exact ha
      · exact hl b hb⟩
theorem has_slice_dec {e : Sh} {x : T} {α : Type} {enc : α → T} {p : α → Prop} (h : (Sh.slice e).has x) (hd : ∀ y, e.has y → ∃ a, y = enc a ∧ p a) : ∃ l : List α, Slice x (l.map enc) ∧ (∀ a ∈ l, p a) ∧ T.bulk.bulks (l.map enc) ≤ x.bulk := by
  rcases has_slice h with rfl | ⟨es, rfl, hes⟩
  · exact ⟨[], .nil, (fun a h => by cases h), by simp [T.bulk.bulks]⟩
  · obtain ⟨l, rfl, hl⟩ := list_dec (es := es) fun y hy => hd y (hes y hy)
    exact ⟨l, .mk, hl, by simp only [T.bulk]; omega⟩
/-- The parts of a struct. -/
theorem has_agg {ss : List Sh} {x : T} (h : (Sh.agg ss).has x) : ∃ l, x = .agg l ∧ Sh.hasL.hasLs ss l := by
  obtain ⟨l, h1, h2⟩ := h
  simp only [Sh.isAgg, if_true] at h2
  exact ⟨l, h2, by simpa [Sh.hasL] using h1⟩
end Go.Proofs.Ytccajagfgdchlaa
