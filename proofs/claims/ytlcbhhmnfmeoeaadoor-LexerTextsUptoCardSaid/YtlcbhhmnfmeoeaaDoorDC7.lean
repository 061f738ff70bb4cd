/- A text of at most sixty-four bytes that may stand in a formula is read as it was written, and of more it is refused: the law LexerTexts answers true. Conditions: the arguments hold together at most 1048576 values and letters. -/
import Derived.Test.YtlcbhhmnfmeoeaaDoorDA7
import Derived.Test.YtlcbhhmnfmeoeaaDoorDFin
import Derived.WalkKit
import Derived.ProofKit
import Derived.OpenShut
import Derived.JoinedCond
set_option linter.unusedSimpArgs false
set_option linter.unusedVariables false
set_option linter.unusedSectionVars false
namespace Go.Proofs.YtlcbhhmnfmeoeaaDoor
open Vai
open Go.ChangeShapes Go.WideShapes Go.ChangeAt Go.RowKit
theorem shape7 : allM (shapeOf Tryd.prog 8) Tryd.f7.params.toList = some [.str] := by kernel_rfl
theorem read7 : (Tryd.f7.params.toList.all fun t => Tryd.prog.readableRec t && decide (t < Tryd.prog.types.size)) = true := by kernel_rfl
theorem res7 : Tryd.f7.resultTypes = #[4] := rfl
set_option maxRecDepth 100000 in
theorem contract7 (H : Type) (enc : TypeId × Value → H) (W : World) (base : Nat) (args : Array Value) (ds gs : List (DataW H)) (before : List MemPlace)
    (hval : ∀ (j : Nat) t v, Tryd.f7.params[j]? = some t → args[j]? = some v → Value.okWide Tryd.prog W .any base t v)
    (hW : DataW.Whole enc Tryd.prog Tryd.f7.params.toList Rows.lexerTextsSpec.vars false W args.toList ds gs before) (hk : Rows.uptoSmall H (ds ++ gs) = true) (hL : laidMetH Tryd.prog Rows.lexerTextsUptoRow.laid W) :
    Calls Tryd.prog 7 args W fun e W' => ∃ v, e = .returned v ∧ Rows.lexerTextsSpec.post enc Tryd.prog Tryd.f7 false true false false W args v W' := by
  have hs := small_le hk
  have hsp : ∀ ds : List (DataW H), ds.length = Tryd.f7.params.size → Rows.lexerTextsSpec.fn H ds = { results := [.lit (.bool true)], args := ds } := fun ds hds => match ds, hds with
    | [_], _ => rfl
  have h4 : Tryd.prog.underlying 4 = some .bool := Tryd.underlying4
  have hv : Rows.lexerTextsSpec.vars = [] := rfl
  exact law_contract (P := Tryd.prog) (cx := cx) (prim := prim) (k := 7) (f := Tryd.f7) (s := Rows.lexerTextsSpec) (bound := 1048576) (shs := [.str]) (n := 8) rfl mixed primOK laid read7 shape7 res7 h4 hv hsp (bulk H) answers7 hval hW hs (laid_glob hL)

set_option maxRecDepth 100000 in
theorem lifted7 (os : Os) (started : os.Started) (H : Type) (enc : TypeId × Value → H) (F : Stop.Interp) :
    ReturnsInHanded {} Tryd.checked os 7 .any ((Rows.OpenSpec.upto Rows.lexerTextsSpec).preRow enc Tryd.prog Tryd.f7 Rows.lexerTextsUptoRow.domain false Rows.lexerTextsUptoRow.laid) (((Rows.OpenSpec.upto Rows.lexerTextsSpec).at F).post enc Tryd.prog Tryd.f7 false true false false) := by
  have hw : (DataW.whole enc Tryd.prog ((laidWorld os).forCall (fun _ _ => 0) ⟨#[], #[.string ⟨#[]⟩], []⟩).memory Tryd.f7.params.toList Rows.lexerTextsSpec.vars false (#[.string ⟨#[]⟩] : Array Value).toList 8).map (fun x => (x.1, x.2.1)) = some ([.lit (.string [])], []) := by kernel_rfl
  obtain ⟨⟨x1, x2, x3⟩, hx, hx1⟩ := Option.map_eq_some_iff.1 hw
  simp only [Prod.mk.injEq] at hx1
  obtain ⟨rfl, rfl⟩ := hx1
  refine returnsInHanded_of_row (C := Tryd.checked) (s := Rows.OpenSpec.upto Rows.lexerTextsSpec) own started (by kernel_rfl) Tryd.func7
    (witness_row_atRef (enc := enc) (C := Tryd.checked) false (laidWorld os) #[.string ⟨#[]⟩] rfl (by kernel_rfl) (by kernel_rfl) (by kernel_rfl)
      (OpenSpec.preRow_of_cond 8 hx (by kernel_rfl) (fun k hk => by cases hk; kernel_rfl) (by kernel_rfl) (laid_met os _))) ?_
  intro W base args ds gs before hval hW _ hcond _ hL _ _
  exact contract7 H enc W base args ds gs before hval hW (hcond _ rfl) hL

theorem lexerTexts_over : Rows.lexerTextsUptoRow.holds Tryd.pinned (Rows.OpenSpec.upto Rows.lexerTextsSpec) :=
  OpenClaim.holds_of_cond 7 Tryd.f7 rfl rfl rfl rfl rfl rfl rfl ⟨rfl, rfl, rfl, rfl, rfl⟩ rfl rfl rfl rfl rfl (by kernel_rfl) Tryd.func7 (by kernel_rfl)
    (of_decide_eq_true (by kernel_rfl)) (by unfold Func.isWrapper; first | (rw [if_pos (by decide +kernel)]; kernel_rfl) | (rw [if_neg (by decide +kernel)]; exact ⟨rfl, rfl⟩))
    (fun os started H enc _ F => by rw [OpenClaim.pre_eq_preRow]; exact lifted7 os started H enc F)

theorem plain7 (f : FuncId) (fn : Func) (hf : Tryd.pinned.checked.prog.funcNamed Rows.lexerTextsUptoRow.func = some f) (hfn : Tryd.pinned.checked.prog.funcs[f]? = some fn) :
    true = Tryd.pinned.checked.prog.looks [] ∧ ∀ (j : Nat) t, fn.params[j]? = some t → Tryd.pinned.checked.prog.wantsStandIn t = false := by
  obtain rfl : f = 7 := Option.some.inj ((show Tryd.prog.funcNamed Rows.lexerTextsUptoRow.func = some 7 by kernel_rfl).symm.trans hf) |>.symm
  obtain rfl : fn = Tryd.f7 := (Option.some.inj (Tryd.func7.symm.trans hfn)).symm
  refine ⟨by kernel_rfl, fun j t ht => ?_⟩
  have h : (Tryd.f7.params.all fun t => Tryd.prog.wantsStandIn t == false) = true := by kernel_rfl
  have hm := Array.mem_of_getElem? ht
  rw [Array.all_eq_true_iff_forall_mem] at h
  have h2 := h t hm
  simp only [beq_iff_eq] at h2
  exact h2
theorem lexerTexts_upto : Rows.LexerTextsUptoCardSaid :=
  Claim7.holds_tied_plain_at .later [] _ _ _ _ lexerTexts_over (fun _ h => by cases h) (by kernel_rfl) (fun _ h => by cases h) lexerTextsUpto_row_tie rfl ⟨rfl, rfl⟩ (by kernel_rfl) rfl plain7 (by kernel_rfl)
#print axioms lexerTexts_upto
end Go.Proofs.YtlcbhhmnfmeoeaaDoor
