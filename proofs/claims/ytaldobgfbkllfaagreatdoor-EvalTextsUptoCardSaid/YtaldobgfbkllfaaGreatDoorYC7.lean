/- Of whatever two texts the values of the formulas that put them together and hold them against each other are what the document says, up to the greatest length: the law EvalTexts answers true. Conditions: the arguments hold together at most 1048576 values and letters. -/
import Derived.Test.YtaldobgfbkllfaaGreatDoorVaiSj
import Derived.WalkKit
import Derived.ProofKit
import Derived.OpenShut
import Derived.JoinedCond
set_option linter.unusedSimpArgs false
set_option linter.unusedVariables false
set_option linter.unusedSectionVars false
namespace Go.Proofs.YtaldobgfbkllfaaGreatDoor
open Vai
open Go.ChangeShapes Go.WideShapes Go.ChangeAt Go.RowKit
theorem shape7 : allM (shapeOf Tryz.prog 8) Tryz.f7.params.toList = some [.str, .str] := by kernel_rfl
theorem read7 : (Tryz.f7.params.toList.all fun t => Tryz.prog.readableRec t && decide (t < Tryz.prog.types.size)) = true := by kernel_rfl
theorem res7 : Tryz.f7.resultTypes = #[4] := rfl
set_option maxRecDepth 100000 in
theorem contract7 (H : Type) (enc : TypeId × Value → H) (W : World) (base : Nat) (args : Array Value) (ds gs : List (DataW H)) (before : List MemPlace)
    (hval : ∀ (j : Nat) t v, Tryz.f7.params[j]? = some t → args[j]? = some v → Value.okWide Tryz.prog W .any base t v)
    (hW : DataW.Whole enc Tryz.prog Tryz.f7.params.toList Rows.evalTextsSpec.vars false W args.toList ds gs before) (hk : Rows.uptoSmall H (ds ++ gs) = true) (hL : laidMetH Tryz.prog Rows.evalTextsUptoRow.laid W) :
    Calls Tryz.prog 7 args W fun e W' => ∃ v, e = .returned v ∧ Rows.evalTextsSpec.post enc Tryz.prog Tryz.f7 false true false false W args v W' := by
  have hs := small_le hk
  have hsp : ∀ ds : List (DataW H), ds.length = Tryz.f7.params.size → Rows.evalTextsSpec.fn H ds = { results := [.lit (.bool true)], args := ds } := fun ds hds => match ds, hds with
    | [_, _], _ => rfl
  have h4 : Tryz.prog.underlying 4 = some .bool := Tryz.underlying4
  have hv : Rows.evalTextsSpec.vars = [] := rfl
  exact law_contract (P := Tryz.prog) (cx := cx) (prim := prim) (k := 7) (f := Tryz.f7) (s := Rows.evalTextsSpec) (bound := 1048576) (shs := [.str, .str]) (n := 8) rfl mixed primOK laid read7 shape7 res7 h4 hv hsp (bulk H) answers7 hval hW hs (laid_glob hL)

set_option maxRecDepth 100000 in
theorem lifted7 (os : Os) (started : os.Started) (H : Type) (enc : TypeId × Value → H) (F : Stop.Interp) :
    ReturnsInHanded {} Tryz.checked os 7 .any ((Rows.OpenSpec.upto Rows.evalTextsSpec).preRow enc Tryz.prog Tryz.f7 Rows.evalTextsUptoRow.domain false Rows.evalTextsUptoRow.laid) (((Rows.OpenSpec.upto Rows.evalTextsSpec).at F).post enc Tryz.prog Tryz.f7 false true false false) := by
  have hw : (DataW.whole enc Tryz.prog ((laidWorld os).forCall (fun _ _ => 0) ⟨#[], #[.string ⟨#[]⟩, .string ⟨#[]⟩], []⟩).memory Tryz.f7.params.toList Rows.evalTextsSpec.vars false (#[.string ⟨#[]⟩, .string ⟨#[]⟩] : Array Value).toList 8).map (fun x => (x.1, x.2.1)) = some ([.lit (.string []), .lit (.string [])], []) := by kernel_rfl
  obtain ⟨⟨x1, x2, x3⟩, hx, hx1⟩ := Option.map_eq_some_iff.1 hw
  simp only [Prod.mk.injEq] at hx1
  obtain ⟨rfl, rfl⟩ := hx1
  refine returnsInHanded_of_row (C := Tryz.checked) (s := Rows.OpenSpec.upto Rows.evalTextsSpec) own started (by kernel_rfl) Tryz.func7
    (witness_row_atRef (enc := enc) (C := Tryz.checked) false (laidWorld os) #[.string ⟨#[]⟩, .string ⟨#[]⟩] rfl (by kernel_rfl) (by kernel_rfl) (by kernel_rfl)
      (OpenSpec.preRow_of_cond 8 hx (by kernel_rfl) (fun k hk => by cases hk; kernel_rfl) (by kernel_rfl) (laid_met os _))) ?_
  intro W base args ds gs before hval hW _ hcond _ hL _ _
  exact contract7 H enc W base args ds gs before hval hW (hcond _ rfl) hL

theorem evalTexts_over : Rows.evalTextsUptoRow.holds Tryz.pinned (Rows.OpenSpec.upto Rows.evalTextsSpec) :=
  OpenClaim.holds_of_cond 7 Tryz.f7 rfl rfl rfl rfl rfl rfl rfl ⟨rfl, rfl, rfl, rfl, rfl⟩ rfl rfl rfl rfl rfl (by kernel_rfl) Tryz.func7 (by kernel_rfl)
    (of_decide_eq_true (by kernel_rfl)) (by unfold Func.isWrapper; first | (rw [if_pos (by decide +kernel)]; kernel_rfl) | (rw [if_neg (by decide +kernel)]; exact ⟨rfl, rfl⟩))
    (fun os started H enc _ F => by rw [OpenClaim.pre_eq_preRow]; exact lifted7 os started H enc F)

theorem plain7 (f : FuncId) (fn : Func) (hf : Tryz.pinned.checked.prog.funcNamed Rows.evalTextsUptoRow.func = some f) (hfn : Tryz.pinned.checked.prog.funcs[f]? = some fn) :
    true = Tryz.pinned.checked.prog.looks [] ∧ ∀ (j : Nat) t, fn.params[j]? = some t → Tryz.pinned.checked.prog.wantsStandIn t = false := by
  obtain rfl : f = 7 := Option.some.inj ((show Tryz.prog.funcNamed Rows.evalTextsUptoRow.func = some 7 by kernel_rfl).symm.trans hf) |>.symm
  obtain rfl : fn = Tryz.f7 := (Option.some.inj (Tryz.func7.symm.trans hfn)).symm
  refine ⟨by kernel_rfl, fun j t ht => ?_⟩
  have h : (Tryz.f7.params.all fun t => Tryz.prog.wantsStandIn t == false) = true := by kernel_rfl
  have hm := Array.mem_of_getElem? ht
  rw [Array.all_eq_true_iff_forall_mem] at h
  have h2 := h t hm
  simp only [beq_iff_eq] at h2
  exact h2
theorem evalTexts_upto : Rows.EvalTextsUptoCardSaid :=
  Claim7.holds_tied_plain_at .later [] _ _ _ _ evalTexts_over (fun _ h => by cases h) (by kernel_rfl) (fun _ h => by cases h) evalTextsUpto_row_tie rfl ⟨rfl, rfl⟩ (by kernel_rfl) rfl plain7 (by kernel_rfl)
#print axioms evalTexts_upto
end Go.Proofs.YtaldobgfbkllfaaGreatDoor
