/- A number that is written out is read to its last digit, and one that no int64 can hold is refused: the law LexerNumbers answers true. Conditions: the arguments hold together at most 1048576 values and letters. -/
import Derived.Test.YtlcbhhmnfmeoeaaDoorDA6
import Derived.Test.YtlcbhhmnfmeoeaaDoorDFin
import Derived.WalkKit
import Derived.ProofKit
import Derived.OpenShut
import Derived.JoinedCond
set_option linter.unusedSimpArgs false
set_option linter.unusedVariables false
set_option linter.unusedSectionVars false
namespace Go.Proofs.YtlcbhhmnfmeoeaaDoor
open Vai
open Go.ChangeShapes Go.WideShapes Go.ChangeAt Go.RowKit
theorem shape6 : allM (shapeOf Tryd.prog 8) Tryd.f6.params.toList = some [.int .i64, .int .u8] := by kernel_rfl
theorem read6 : (Tryd.f6.params.toList.all fun t => Tryd.prog.readableRec t && decide (t < Tryd.prog.types.size)) = true := by kernel_rfl
theorem res6 : Tryd.f6.resultTypes = #[4] := rfl
set_option maxRecDepth 100000 in
theorem contract6 (H : Type) (enc : TypeId × Value → H) (W : World) (base : Nat) (args : Array Value) (ds gs : List (DataW H)) (before : List MemPlace)
    (hval : ∀ (j : Nat) t v, Tryd.f6.params[j]? = some t → args[j]? = some v → Value.okWide Tryd.prog W .any base t v)
    (hW : DataW.Whole enc Tryd.prog Tryd.f6.params.toList Rows.lexerNumbersSpec.vars false W args.toList ds gs before) (hk : Rows.uptoSmall H (ds ++ gs) = true) (hL : laidMetH Tryd.prog Rows.lexerNumbersUptoRow.laid W) :
    Calls Tryd.prog 6 args W fun e W' => ∃ v, e = .returned v ∧ Rows.lexerNumbersSpec.post enc Tryd.prog Tryd.f6 false true false false W args v W' := by
  have hs := small_le hk
  have hsp : ∀ ds : List (DataW H), ds.length = Tryd.f6.params.size → Rows.lexerNumbersSpec.fn H ds = { results := [.lit (.bool true)], args := ds } := fun ds hds => match ds, hds with
    | [_, _], _ => rfl
  have h4 : Tryd.prog.underlying 4 = some .bool := Tryd.underlying4
  have hv : Rows.lexerNumbersSpec.vars = [] := rfl
  exact law_contract (P := Tryd.prog) (cx := cx) (prim := prim) (k := 6) (f := Tryd.f6) (s := Rows.lexerNumbersSpec) (bound := 1048576) (shs := [.int .i64, .int .u8]) (n := 8) rfl mixed primOK laid read6 shape6 res6 h4 hv hsp (bulk H) answers6 hval hW hs (laid_glob hL)

set_option maxRecDepth 100000 in
theorem lifted6 (os : Os) (started : os.Started) (H : Type) (enc : TypeId × Value → H) (F : Stop.Interp) :
    ReturnsInHanded {} Tryd.checked os 6 .any ((Rows.OpenSpec.upto Rows.lexerNumbersSpec).preRow enc Tryd.prog Tryd.f6 Rows.lexerNumbersUptoRow.domain false Rows.lexerNumbersUptoRow.laid) (((Rows.OpenSpec.upto Rows.lexerNumbersSpec).at F).post enc Tryd.prog Tryd.f6 false true false false) := by
  have hw : (DataW.whole enc Tryd.prog ((laidWorld os).forCall (fun _ _ => 0) ⟨#[], #[.int .i64 0, .int .u8 0], []⟩).memory Tryd.f6.params.toList Rows.lexerNumbersSpec.vars false (#[.int .i64 0, .int .u8 0] : Array Value).toList 8).map (fun x => (x.1, x.2.1)) = some ([.lit (.int .i64 0), .lit (.int .u8 0)], []) := by kernel_rfl
  obtain ⟨⟨x1, x2, x3⟩, hx, hx1⟩ := Option.map_eq_some_iff.1 hw
  simp only [Prod.mk.injEq] at hx1
  obtain ⟨rfl, rfl⟩ := hx1
  refine returnsInHanded_of_row (C := Tryd.checked) (s := Rows.OpenSpec.upto Rows.lexerNumbersSpec) own started (by kernel_rfl) Tryd.func6
    (witness_row_atRef (enc := enc) (C := Tryd.checked) false (laidWorld os) #[.int .i64 0, .int .u8 0] rfl (by kernel_rfl) (by kernel_rfl) (by kernel_rfl)
      (OpenSpec.preRow_of_cond 8 hx (by kernel_rfl) (fun k hk => by cases hk; kernel_rfl) (by kernel_rfl) (laid_met os _))) ?_
  intro W base args ds gs before hval hW _ hcond _ hL _ _
  exact contract6 H enc W base args ds gs before hval hW (hcond _ rfl) hL

theorem lexerNumbers_over : Rows.lexerNumbersUptoRow.holds Tryd.pinned (Rows.OpenSpec.upto Rows.lexerNumbersSpec) :=
  OpenClaim.holds_of_cond 6 Tryd.f6 rfl rfl rfl rfl rfl rfl rfl ⟨rfl, rfl, rfl, rfl, rfl⟩ rfl rfl rfl rfl rfl (by kernel_rfl) Tryd.func6 (by kernel_rfl)
    (of_decide_eq_true (by kernel_rfl)) (by unfold Func.isWrapper; first | (rw [if_pos (by decide +kernel)]; kernel_rfl) | (rw [if_neg (by decide +kernel)]; exact ⟨rfl, rfl⟩))
    (fun os started H enc _ F => by rw [OpenClaim.pre_eq_preRow]; exact lifted6 os started H enc F)

theorem plain6 (f : FuncId) (fn : Func) (hf : Tryd.pinned.checked.prog.funcNamed Rows.lexerNumbersUptoRow.func = some f) (hfn : Tryd.pinned.checked.prog.funcs[f]? = some fn) :
    true = Tryd.pinned.checked.prog.looks [] ∧ ∀ (j : Nat) t, fn.params[j]? = some t → Tryd.pinned.checked.prog.wantsStandIn t = false := by
  obtain rfl : f = 6 := Option.some.inj ((show Tryd.prog.funcNamed Rows.lexerNumbersUptoRow.func = some 6 by kernel_rfl).symm.trans hf) |>.symm
  obtain rfl : fn = Tryd.f6 := (Option.some.inj (Tryd.func6.symm.trans hfn)).symm
  refine ⟨by kernel_rfl, fun j t ht => ?_⟩
  have h : (Tryd.f6.params.all fun t => Tryd.prog.wantsStandIn t == false) = true := by kernel_rfl
  have hm := Array.mem_of_getElem? ht
  rw [Array.all_eq_true_iff_forall_mem] at h
  have h2 := h t hm
  simp only [beq_iff_eq] at h2
  exact h2
theorem lexerNumbers_upto : Rows.LexerNumbersUptoCardSaid :=
  Claim7.holds_tied_plain_at .later [] _ _ _ _ lexerNumbers_over (fun _ h => by cases h) (by kernel_rfl) (fun _ h => by cases h) lexerNumbersUpto_row_tie rfl ⟨rfl, rfl⟩ (by kernel_rfl) rfl plain6 (by kernel_rfl)
#print axioms lexerNumbers_upto
end Go.Proofs.YtlcbhhmnfmeoeaaDoor
