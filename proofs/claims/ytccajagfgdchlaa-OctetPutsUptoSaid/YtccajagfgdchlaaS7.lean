/- Whatever is laid behind whatever bytes stands there as the document says: the law OctetPuts answers true. Conditions: the arguments hold together at most 1048576 values and letters. -/
import Derived.Test.YtccajagfgdchlaaS6
import Derived.WalkKit
import Derived.ProofKit
import Derived.OpenShut
import Derived.JoinedCond
set_option linter.unusedSimpArgs false
set_option linter.unusedVariables false
namespace Go.Proofs.Ytccajagfgdchlaa
open Vai
open Go.ChangeShapes Go.WideShapes Go.ChangeAt Go.RowKit

theorem bulk_one {H : Type} (d : DataW H) : 1 ≤ Rows.uptoBulk d := by
  cases d with
  | lit l => cases l <;> simp [Rows.uptoBulk]
  | _ => simp [Rows.uptoBulk]
def bulk (H : Type) : Bulk H where
  b := Rows.uptoBulk
  bs := Rows.uptoBulkAll
  str := fun s => by simp [Rows.uptoBulk]
  lit := fun l => bulk_one _
  nil := bulk_one _
  slice := fun e s => by simp only [Rows.uptoBulk]; omega
  agg := fun p => by simp only [Rows.uptoBulk]; omega
  cons := fun d r => by simp only [Rows.uptoBulkAll]
theorem own : ownKnob Try.prog.godebug = none := by kernel_rfl
theorem mixed : Try.prog.follows .mixedOrders = true := by kernel_rfl
theorem laid : laidOutB Try.prog = true := by kernel_rfl
theorem primOK : PrimOK Try.prog prim := fun k g h => by cases h

theorem bulks_len (l : List T) (h : ∀ x ∈ l, 1 ≤ x.bulk) : l.length ≤ T.bulk.bulks l := by
  induction l with
  | nil => simp
  | cons x l ih =>
    have h1 := h x List.mem_cons_self
    have h2 := ih fun y hy => h y (List.mem_cons_of_mem _ hy)
    simp only [T.bulk.bulks, List.length_cons]
    omega

/-- A slice of bytes. -/
theorem has_bytes {x : T} (h : (Sh.slice (.int .u8)).has x) : ∃ l : List UInt8, Slice x (ub l) ∧ l.length ≤ x.bulk := by
  obtain ⟨l, h1, h2⟩ := h
  simp only [Sh.isAgg, Bool.false_eq_true, if_false] at h2
  subst h2
  simp only [Sh.hasL] at h1
  rcases h1 with h1 | ⟨es, h1, h2⟩
  · simp only [List.cons.injEq, and_true] at h1
    subst h1
    exact ⟨[], .nil, Nat.zero_le _⟩
  · simp only [List.cons.injEq, and_true] at h1
    subst h1
    have key : ∀ es : List T, (∀ y ∈ es, ∃ l', (∃ n, l' = [T.int .u8 n] ∧ IntKind.u8.min ≤ n ∧ n ≤ IntKind.u8.max) ∧ l' = [y]) → ∃ l : List UInt8, es = ub l ∧ l.length ≤ T.bulk.bulks es := by
      intro es
      induction es with
      | nil => intro _; exact ⟨[], rfl, by simp⟩
      | cons y es ih =>
        intro h
        obtain ⟨l, rfl, hl⟩ := ih fun z hz => h z (List.mem_cons_of_mem _ hz)
        obtain ⟨_, ⟨n, rfl, h3, h4⟩, h5⟩ := h y List.mem_cons_self
        cases h5
        have h3 : 0 ≤ n := h3
        have h4 : n ≤ 255 := h4
        refine ⟨u8 n :: l, ?_, ?_⟩
        · simp only [ub, List.map_cons, List.cons.injEq, T.int.injEq, true_and, and_true]
          rw [u8_toNat]
          omega
        · simp only [T.bulk.bulks, T.bulk, List.length_cons]
          omega
    obtain ⟨l, rfl, hl⟩ := key es (by simpa [Sh.isAgg] using h2)
    exact ⟨l, .mk, by simp only [T.bulk]; omega⟩

theorem has_str {x : T} (h : Sh.str.has x) : ∃ s : ByteArray, x = .str s ∧ s.size ≤ x.bulk := by
  obtain ⟨l, ⟨s, rfl⟩, h2⟩ := h
  simp [Sh.isAgg] at h2
  subst h2
  exact ⟨s, rfl, by simp [T.bulk]⟩
theorem has_int {k : IntKind} {x : T} (h : (Sh.int k).has x) : ∃ n, x = .int k n ∧ k.min ≤ n ∧ n ≤ k.max := by
  obtain ⟨l, ⟨n, rfl, h1⟩, h2⟩ := h
  simp [Sh.isAgg] at h2
  exact ⟨n, h2.symm, h1⟩
theorem has_bool {x : T} (h : Sh.bool.has x) : ∃ b, x = .bool b := by
  obtain ⟨l, ⟨s, rfl⟩, h2⟩ := h
  simp [Sh.isAgg] at h2
  exact ⟨s, h2.symm⟩

theorem bulk_bs {H : Type} (l : List (DataW H)) {n : Nat} (h : Rows.uptoBulkAll l ≤ n) : (bulk H).bs l ≤ n := h
theorem small_le {H : Type} {l : List (DataW H)} (hk : Rows.uptoSmall H l = true) : (bulk H).bs l ≤ 1048576 := by
  unfold Rows.uptoSmall at hk
  exact bulk_bs l (of_decide_eq_true hk)
theorem shape3 : allM (shapeOf Try.prog 8) Try.f3.params.toList = some [.slice (.int .u8), .int .i64, .str, .bool] := by kernel_rfl
theorem answers3 : Answers cx prim 3 [.slice (.int .u8), .int .i64, .str, .bool] 1048576 := by
  rintro xs hxs hb
  obtain ⟨x1, _, rfl, h1, x2, _, rfl, h2, x3, _, rfl, h3, x4, _, rfl, h4, rfl⟩ := hxs
  obtain ⟨l, hl, hll⟩ := has_bytes h1
  obtain ⟨n, rfl, _, _⟩ := has_int h2
  obtain ⟨s, rfl, hs⟩ := has_str h3
  obtain ⟨b, rfl⟩ := has_bool h4
  simp only [T.bulk.bulks] at hb
  obtain ⟨h', hc⟩ := law3 n s b hl (by omega) (by omega)
  obtain ⟨m, hm⟩ := call_some.1 hc
  exact ⟨m, h', hm⟩

theorem read3 : (Try.f3.params.toList.all fun t => Try.prog.readableRec t && decide (t < Try.prog.types.size)) = true := by kernel_rfl
theorem res3 : Try.f3.resultTypes = #[4] := rfl
set_option maxRecDepth 100000 in
theorem contract3 (H : Type) (enc : TypeId × Value → H) (W : World) (base : Nat) (args : Array Value) (ds gs : List (DataW H)) (before : List MemPlace)
    (hval : ∀ (j : Nat) t v, Try.f3.params[j]? = some t → args[j]? = some v → Value.okWide Try.prog W .any base t v)
    (hW : DataW.Whole enc Try.prog Try.f3.params.toList Rows.octetPutsSpec.vars false W args.toList ds gs before) (hk : Rows.uptoSmall H (ds ++ gs) = true) :
    Calls Try.prog 3 args W fun e W' => ∃ v, e = .returned v ∧ Rows.octetPutsSpec.post enc Try.prog Try.f3 false true false false W args v W' := by
  have hs := small_le hk
  have hsp : ∀ ds : List (DataW H), ds.length = Try.f3.params.size → Rows.octetPutsSpec.fn H ds = { results := [.lit (.bool true)], args := ds } := fun ds hds => match ds, hds with
    | [_, _, _, _], _ => rfl
  have h4 : Try.prog.underlying 4 = some .bool := Try.underlying4
  have hv : Rows.octetPutsSpec.vars = [] := rfl
  exact law_contract (P := Try.prog) (cx := cx) (prim := prim) (k := 3) (f := Try.f3) (s := Rows.octetPutsSpec) (bound := 1048576) (shs := [.slice (.int .u8), .int .i64, .str, .bool]) (n := 8) rfl mixed primOK laid read3 shape3 res3 h4 hv hsp (bulk H) answers3 hval hW hs

set_option maxRecDepth 100000 in
theorem lifted3 (os : Os) (started : os.Started) (H : Type) (enc : TypeId × Value → H) (F : Stop.Interp) :
    ReturnsInHanded {} Try.checked os 3 .any ((Rows.OpenSpec.upto Rows.octetPutsSpec).pre6 enc Try.prog Try.f3 Rows.octetPutsUptoRow.domain false) (((Rows.OpenSpec.upto Rows.octetPutsSpec).at F).post enc Try.prog Try.f3 false true false false) := by
  refine returnsInHanded_of_cond (C := Try.checked) (s := Rows.OpenSpec.upto Rows.octetPutsSpec) (k := Rows.uptoSmall) rfl own started (by kernel_rfl) Try.func3
    (OpenSpec.witness (enc := enc) (C := Try.checked) (s := Rows.OpenSpec.upto Rows.octetPutsSpec) (k := Rows.uptoSmall) rfl false ⟨#[], #[.slice none 0 0, .int .i64 0, .string ⟨#[]⟩, .bool false], []⟩ 8 (by kernel_rfl) (by kernel_rfl) (by kernel_rfl)
      (x := ([.nil, .lit (.int .i64 0), .lit (.string []), .lit (.bool false)], [], [])) (by kernel_rfl) rfl (by kernel_rfl)) ?_
  intro W base args ds gs before hval hW _ hk _
  exact contract3 H enc W base args ds gs before hval hW hk

theorem octetPuts_over : Rows.octetPutsUptoRow.holds Try.pinned (Rows.OpenSpec.upto Rows.octetPutsSpec) :=
  OpenClaim.holds_of_cond 3 Try.f3 rfl rfl rfl rfl rfl rfl rfl ⟨rfl, rfl, rfl, rfl, rfl⟩ rfl rfl rfl rfl rfl (by kernel_rfl) Try.func3 (by kernel_rfl)
    (of_decide_eq_true (by kernel_rfl)) (by unfold Func.isWrapper; first | (rw [if_pos (by decide +kernel)]; kernel_rfl) | (rw [if_neg (by decide +kernel)]; exact ⟨rfl, rfl⟩))
    (fun os started H enc _ F => lifted3 os started H enc F)

theorem octetPuts_upto : Rows.OctetPutsUptoSaid := octetPuts_over
#print axioms octetPuts_upto
end Go.Proofs.Ytccajagfgdchlaa
