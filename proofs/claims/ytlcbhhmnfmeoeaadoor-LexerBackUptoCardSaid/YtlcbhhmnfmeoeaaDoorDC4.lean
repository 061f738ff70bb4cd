/- Tokens that are written with blanks between them are read as they were: the law LexerBack answers true. Conditions: the arguments hold together at most 1048576 values and letters. -/
import Derived.Test.YtlcbhhmnfmeoeaaDoorDA4
import Derived.Test.YtlcbhhmnfmeoeaaDoorDFin
import Derived.WalkKit
import Derived.ProofKit
import Derived.OpenShut
import Derived.JoinedCond
set_option linter.unusedSimpArgs false
set_option linter.unusedVariables false
set_option linter.unusedSectionVars false
namespace Go.Proofs.YtlcbhhmnfmeoeaaDoor
open Vai
open Go.ChangeShapes Go.WideShapes Go.ChangeAt Go.RowKit
theorem shape4 : allM (shapeOf Tryd.prog 8) Tryd.f4.params.toList = some [.str, .int .u8] := by kernel_rfl
theorem read4 : (Tryd.f4.params.toList.all fun t => Tryd.prog.readableRec t && decide (t < Tryd.prog.types.size)) = true := by kernel_rfl
theorem res4 : Tryd.f4.resultTypes = #[4] := rfl
set_option maxRecDepth 100000 in
theorem contract4 (H : Type) (enc : TypeId × Value → H) (W : World) (base : Nat) (args : Array Value) (ds gs : List (DataW H)) (before : List MemPlace)
    (hval : ∀ (j : Nat) t v, Tryd.f4.params[j]? = some t → args[j]? = some v → Value.okWide Tryd.prog W .any base t v)
    (hW : DataW.Whole enc Tryd.prog Tryd.f4.params.toList Rows.lexerBackSpec.vars false W args.toList ds gs before) (hk : Rows.uptoSmall H (ds ++ gs) = true) (hL : laidMetH Tryd.prog Rows.lexerBackUptoRow.laid W) :
    Calls Tryd.prog 4 args W fun e W' => ∃ v, e = .returned v ∧ Rows.lexerBackSpec.post enc Tryd.prog Tryd.f4 false true false false W args v W' := by
  have hs := small_le hk
  have hsp : ∀ ds : List (DataW H), ds.length = Tryd.f4.params.size → Rows.lexerBackSpec.fn H ds = { results := [.lit (.bool true)], args := ds } := fun ds hds => match ds, hds with
    | [_, _], _ => rfl
  have h4 : Tryd.prog.underlying 4 = some .bool := Tryd.underlying4
  have hv : Rows.lexerBackSpec.vars = [] := rfl
  exact law_contract (P := Tryd.prog) (cx := cx) (prim := prim) (k := 4) (f := Tryd.f4) (s := Rows.lexerBackSpec) (bound := 1048576) (shs := [.str, .int .u8]) (n := 8) rfl mixed primOK laid read4 shape4 res4 h4 hv hsp (bulk H) answers4 hval hW hs (laid_glob hL)

set_option maxRecDepth 100000 in
theorem lifted4 (os : Os) (started : os.Started) (H : Type) (enc : TypeId × Value → H) (F : Stop.Interp) :
    ReturnsInHanded {} Tryd.checked os 4 .any ((Rows.OpenSpec.upto Rows.lexerBackSpec).preRow enc Tryd.prog Tryd.f4 Rows.lexerBackUptoRow.domain false Rows.lexerBackUptoRow.laid) (((Rows.OpenSpec.upto Rows.lexerBackSpec).at F).post enc Tryd.prog Tryd.f4 false true false false) := by
  have hw : (DataW.whole enc Tryd.prog ((laidWorld os).forCall (fun _ _ => 0) ⟨#[], #[.string ⟨#[]⟩, .int .u8 0], []⟩).memory Tryd.f4.params.toList Rows.lexerBackSpec.vars false (#[.string ⟨#[]⟩, .int .u8 0] : Array Value).toList 8).map (fun x => (x.1, x.2.1)) = some ([.lit (.string []), .lit (.int .u8 0)], []) := by kernel_rfl
  obtain ⟨⟨x1, x2, x3⟩, hx, hx1⟩ := Option.map_eq_some_iff.1 hw
  simp only [Prod.mk.injEq] at hx1
  obtain ⟨rfl, rfl⟩ := hx1
  refine returnsInHanded_of_row (C := Tryd.checked) (s := Rows.OpenSpec.upto Rows.lexerBackSpec) own started (by kernel_rfl) Tryd.func4
    (witness_row_atRef (enc := enc) (C := Tryd.checked) false (laidWorld os) #[.string ⟨#[]⟩, .int .u8 0] rfl (by kernel_rfl) (by kernel_rfl) (by kernel_rfl)
      (OpenSpec.preRow_of_cond 8 hx (by kernel_rfl) (fun k hk => by cases hk; kernel_rfl) (by kernel_rfl) (laid_met os _))) ?_
  intro W base args ds gs before hval hW _ hcond _ hL _ _
  exact contract4 H enc W base args ds gs before hval hW (hcond _ rfl) hL

theorem lexerBack_over : Rows.lexerBackUptoRow.holds Tryd.pinned (Rows.OpenSpec.upto Rows.lexerBackSpec) :=
  OpenClaim.holds_of_cond 4 Tryd.f4 rfl rfl rfl rfl rfl rfl rfl ⟨rfl, rfl, rfl, rfl, rfl⟩ rfl rfl rfl rfl rfl (by kernel_rfl) Tryd.func4 (by kernel_rfl)
    (of_decide_eq_true (by kernel_rfl)) (by unfold Func.isWrapper; first | (rw [if_pos (by decide +kernel)]; kernel_rfl) | (rw [if_neg (by decide +kernel)]; exact ⟨rfl, rfl⟩))
    (fun os started H enc _ F => by rw [OpenClaim.pre_eq_preRow]; exact lifted4 os started H enc F)

theorem plain4 (f : FuncId) (fn : Func) (hf : Tryd.pinned.checked.prog.funcNamed Rows.lexerBackUptoRow.func = some f) (hfn : Tryd.pinned.checked.prog.funcs[f]? = some fn) :
    true = Tryd.pinned.checked.prog.looks [] ∧ ∀ (j : Nat) t, fn.params[j]? = some t → Tryd.pinned.checked.prog.wantsStandIn t = false := by
  obtain rfl : f = 4 := Option.some.inj ((show Tryd.prog.funcNamed Rows.lexerBackUptoRow.func = some 4 by kernel_rfl).symm.trans hf) |>.symm
  obtain rfl : fn = Tryd.f4 := (Option.some.inj (Tryd.func4.symm.trans hfn)).symm
  refine ⟨by kernel_rfl, fun j t ht => ?_⟩
  have h : (Tryd.f4.params.all fun t => Tryd.prog.wantsStandIn t == false) = true := by kernel_rfl
  have hm := Array.mem_of_getElem? ht
  rw [Array.all_eq_true_iff_forall_mem] at h
  have h2 := h t hm
  simp only [beq_iff_eq] at h2
  exact h2
theorem lexerBack_upto : Rows.LexerBackUptoCardSaid :=
  Claim7.holds_tied_plain_at .later [] _ _ _ _ lexerBack_over (fun _ h => by cases h) (by kernel_rfl) (fun _ h => by cases h) lexerBackUpto_row_tie rfl ⟨rfl, rfl⟩ (by kernel_rfl) rfl plain4 (by kernel_rfl)
#print axioms lexerBack_upto
end Go.Proofs.YtlcbhhmnfmeoeaaDoor
