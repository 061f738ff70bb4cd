/- Of whatever list of parts and whatever variables eval.Value finds the value or the error that the document says, and eval.Decls tells what the variables are: the law EvalValues answers true. Conditions: the arguments hold together at most 1048576 values and letters. -/
import Derived.Test.YtaldobgfbkllfaaGreatDoorVaiSo
import Derived.WalkKit
import Derived.ProofKit
import Derived.OpenShut
import Derived.JoinedCond
set_option linter.unusedSimpArgs false
set_option linter.unusedVariables false
set_option linter.unusedSectionVars false
namespace Go.Proofs.YtaldobgfbkllfaaGreatDoor
open Vai
open Go.ChangeShapes Go.WideShapes Go.ChangeAt Go.RowKit
theorem shape3 : allM (shapeOf Tryz.prog 8) Tryz.f3.params.toList = some [.slice (.agg [.int .i64, .int .i64, .int .i64, .int .i64, .agg [.int .i64, .int .i64, .str], .str, .int .i64]), .slice (.agg [.str, .agg [.int .i64, .int .i64, .str]])] := by kernel_rfl
theorem read3 : (Tryz.f3.params.toList.all fun t => Tryz.prog.readableRec t && decide (t < Tryz.prog.types.size)) = true := by kernel_rfl
theorem res3 : Tryz.f3.resultTypes = #[4] := rfl
set_option maxRecDepth 100000 in
theorem contract3 (H : Type) (enc : TypeId × Value → H) (W : World) (base : Nat) (args : Array Value) (ds gs : List (DataW H)) (before : List MemPlace)
    (hval : ∀ (j : Nat) t v, Tryz.f3.params[j]? = some t → args[j]? = some v → Value.okWide Tryz.prog W .any base t v)
    (hW : DataW.Whole enc Tryz.prog Tryz.f3.params.toList Rows.evalValuesSpec.vars false W args.toList ds gs before) (hk : Rows.uptoSmall H (ds ++ gs) = true) (hL : laidMetH Tryz.prog Rows.evalValuesUptoRow.laid W) :
    Calls Tryz.prog 3 args W fun e W' => ∃ v, e = .returned v ∧ Rows.evalValuesSpec.post enc Tryz.prog Tryz.f3 false true false false W args v W' := by
  have hs := small_le hk
  have hsp : ∀ ds : List (DataW H), ds.length = Tryz.f3.params.size → Rows.evalValuesSpec.fn H ds = { results := [.lit (.bool true)], args := ds } := fun ds hds => match ds, hds with
    | [_, _], _ => rfl
  have h4 : Tryz.prog.underlying 4 = some .bool := Tryz.underlying4
  have hv : Rows.evalValuesSpec.vars = [] := rfl
  exact law_contract (P := Tryz.prog) (cx := cx) (prim := prim) (k := 3) (f := Tryz.f3) (s := Rows.evalValuesSpec) (bound := 1048576) (shs := [.slice (.agg [.int .i64, .int .i64, .int .i64, .int .i64, .agg [.int .i64, .int .i64, .str], .str, .int .i64]), .slice (.agg [.str, .agg [.int .i64, .int .i64, .str]])]) (n := 8) rfl mixed primOK laid read3 shape3 res3 h4 hv hsp (bulk H) answers3 hval hW hs (laid_glob hL)
set_option maxRecDepth 100000 in
theorem lifted3 (os : Os) (started : os.Started) (H : Type) (enc : TypeId × Value → H) (F : Stop.Interp) :
    ReturnsInHanded {} Tryz.checked os 3 .any ((Rows.OpenSpec.upto Rows.evalValuesSpec).preRow enc Tryz.prog Tryz.f3 Rows.evalValuesUptoRow.domain false Rows.evalValuesUptoRow.laid) (((Rows.OpenSpec.upto Rows.evalValuesSpec).at F).post enc Tryz.prog Tryz.f3 false true false false) := by
  have hw : (DataW.whole enc Tryz.prog ((laidWorld os).forCall (fun _ _ => 0) ⟨#[], #[.slice none 0 0, .slice none 0 0], []⟩).memory Tryz.f3.params.toList Rows.evalValuesSpec.vars false (#[.slice none 0 0, .slice none 0 0] : Array Value).toList 8).map (fun x => (x.1, x.2.1)) = some ([.nil, .nil], []) := by kernel_rfl
  obtain ⟨⟨x1, x2, x3⟩, hx, hx1⟩ := Option.map_eq_some_iff.1 hw
  simp only [Prod.mk.injEq] at hx1
  obtain ⟨rfl, rfl⟩ := hx1
  refine returnsInHanded_of_row (C := Tryz.checked) (s := Rows.OpenSpec.upto Rows.evalValuesSpec) own started (by kernel_rfl) Tryz.func3
    (witness_row_atRef (enc := enc) (C := Tryz.checked) false (laidWorld os) #[.slice none 0 0, .slice none 0 0] rfl (by kernel_rfl) (by kernel_rfl) (by kernel_rfl)
      (OpenSpec.preRow_of_cond 8 hx (by kernel_rfl) (fun k hk => by cases hk; kernel_rfl) (by kernel_rfl) (laid_met os _))) ?_
  intro W base args ds gs before hval hW _ hcond _ hL _ _
  exact contract3 H enc W base args ds gs before hval hW (hcond _ rfl) hL
set_option maxHeartbeats 0 in
theorem closed3 : joinedFacts Tryz.pinned.checked.prog 3 Tryz.f3 (Rows.OpenSpec.upto Rows.evalValuesSpec).bare Rows.evalValuesUptoRow = true := by
  simp only [joinedFacts, Bool.and_eq_true]
  repeat' apply And.intro
  all_goals as_aux_lemma => kernel_rfl
set_option maxHeartbeats 0 in
theorem evalValues_over : Rows.evalValuesUptoRow.holds Tryz.pinned (Rows.OpenSpec.upto Rows.evalValuesSpec) :=
  OpenClaim.holds_of_cond 3 Tryz.f3 rfl rfl rfl rfl rfl rfl rfl ⟨rfl, rfl, rfl, rfl, rfl⟩ rfl rfl rfl rfl rfl (by kernel_rfl) Tryz.func3 closed3
    (of_decide_eq_true (by kernel_rfl)) (by unfold Func.isWrapper; first | (rw [if_pos (by decide +kernel)]; kernel_rfl) | (rw [if_neg (by decide +kernel)]; exact ⟨rfl, rfl⟩))
    (fun os started H enc _ F => by rw [OpenClaim.pre_eq_preRow]; exact lifted3 os started H enc F)
theorem plain3 (f : FuncId) (fn : Func) (hf : Tryz.pinned.checked.prog.funcNamed Rows.evalValuesUptoRow.func = some f) (hfn : Tryz.pinned.checked.prog.funcs[f]? = some fn) :
    true = Tryz.pinned.checked.prog.looks [] ∧ ∀ (j : Nat) t, fn.params[j]? = some t → Tryz.pinned.checked.prog.wantsStandIn t = false := by
  obtain rfl : f = 3 := Option.some.inj ((show Tryz.prog.funcNamed Rows.evalValuesUptoRow.func = some 3 by kernel_rfl).symm.trans hf) |>.symm
  obtain rfl : fn = Tryz.f3 := (Option.some.inj (Tryz.func3.symm.trans hfn)).symm
  refine ⟨by kernel_rfl, fun j t ht => ?_⟩
  have h : (Tryz.f3.params.all fun t => Tryz.prog.wantsStandIn t == false) = true := by kernel_rfl
  have hm := Array.mem_of_getElem? ht
  rw [Array.all_eq_true_iff_forall_mem] at h
  have h2 := h t hm
  simp only [beq_iff_eq] at h2
  exact h2
theorem evalValues_upto : Rows.EvalValuesUptoCardSaid :=
  Claim7.holds_tied_plain_at .later [] _ _ _ _ evalValues_over (fun _ h => by cases h) (by kernel_rfl) (fun _ h => by cases h) evalValuesUpto_row_tie rfl ⟨rfl, rfl⟩ (by kernel_rfl) rfl plain3 (by kernel_rfl)
#print axioms evalValues_upto
end Go.Proofs.YtaldobgfbkllfaaGreatDoor
