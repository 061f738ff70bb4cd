/- Of two conditions that are put together by &&, by two strokes and by a question only what is needed counts: the law EvalParts answers true. Conditions: the arguments hold together at most 1048576 values and letters. -/
import Derived.Test.YtaldobgfbkllfaaGreatDoorYA6
import Derived.Test.YtaldobgfbkllfaaGreatDoorVaiSp
import Derived.WalkKit
import Derived.ProofKit
import Derived.OpenShut
import Derived.JoinedCond
set_option linter.unusedSimpArgs false
set_option linter.unusedVariables false
set_option linter.unusedSectionVars false
namespace Go.Proofs.YtaldobgfbkllfaaGreatDoor
open Vai
open Go.ChangeShapes Go.WideShapes Go.ChangeAt Go.RowKit
theorem shape6:allM (shapeOf Tryz.prog 8) Tryz.f6.params.toList=some [.str,.str,.slice (.agg [.str,.agg [.int .i64,.int .i64,.str]])]:=by kernel_rfl
theorem read6:(Tryz.f6.params.toList.all fun t=>Tryz.prog.readableRec t&&decide (t<Tryz.prog.types.size))=true:=by kernel_rfl
theorem res6:Tryz.f6.resultTypes = #[4]:=rfl
set_option maxRecDepth 100000 in
theorem contract6 (H:Type)(enc:TypeId × Value→H)(W:World)(base:Nat)(args:Array Value)(ds gs:List (DataW H))(before:List MemPlace)
  (hval:∀ (j:Nat) t v,Tryz.f6.params[j]?=some t→args[j]?=some v→Value.okWide Tryz.prog W .any base t v)
  (hW:DataW.Whole enc Tryz.prog Tryz.f6.params.toList Rows.evalPartsSpec.vars false W args.toList ds gs before) (hk:Rows.uptoSmall H (ds++gs)=true) (hL:laidMetH Tryz.prog Rows.evalPartsUptoRow.laid W) :
  Calls Tryz.prog 6 args W fun e W'=>∃ v,e = .returned v∧Rows.evalPartsSpec.post enc Tryz.prog Tryz.f6 false true false false W args v W':=by
 have hs:=small_le hk
 have hsp:∀ ds:List (DataW H),ds.length=Tryz.f6.params.size→Rows.evalPartsSpec.fn H ds={ results:=[.lit (.bool true)],args:=ds }:=fun ds hds=>match ds,hds with
  | [_,_,_],_=>rfl
 have h4:Tryz.prog.underlying 4=some .bool:=Tryz.underlying4;have hv:Rows.evalPartsSpec.vars=[]:=rfl;exact law_contract (P:=Tryz.prog) (cx:=cx) (prim:=prim) (k:=6) (f:=Tryz.f6) (s:=Rows.evalPartsSpec) (bound:=1048576) (shs:=[.str,.str,.slice (.agg [.str,.agg [.int .i64,.int .i64,.str]])]) (n:=8) rfl mixed primOK laid read6 shape6 res6 h4 hv hsp (bulk H) answers6 hval hW hs (laid_glob hL)
set_option maxRecDepth 100000 in
theorem lifted6 (os:Os)(started:os.Started)(H:Type)(enc:TypeId × Value→H)(F:Stop.Interp) :
  ReturnsInHanded {} Tryz.checked os 6 .any ((Rows.OpenSpec.upto Rows.evalPartsSpec).preRow enc Tryz.prog Tryz.f6 Rows.evalPartsUptoRow.domain false Rows.evalPartsUptoRow.laid) (((Rows.OpenSpec.upto Rows.evalPartsSpec).at F).post enc Tryz.prog Tryz.f6 false true false false):=by
 have hw:(DataW.whole enc Tryz.prog ((laidWorld os).forCall (fun _ _=>0) ⟨#[],#[.string ⟨#[]⟩,.string ⟨#[]⟩,.slice none 0 0],[]⟩).memory Tryz.f6.params.toList Rows.evalPartsSpec.vars false (#[.string ⟨#[]⟩,.string ⟨#[]⟩,.slice none 0 0]:Array Value).toList 8).map (fun x=>(x.1,x.2.1))=some ([.lit (.string []),.lit (.string []),.nil],[]):=by kernel_rfl
 obtain ⟨⟨x1,x2,x3⟩,hx,hx1⟩:=Option.map_eq_some_iff.1 hw;simp only [Prod.mk.injEq] at hx1;obtain ⟨rfl,rfl⟩:=hx1;refine returnsInHanded_of_row (C:=Tryz.checked) (s:=Rows.OpenSpec.upto Rows.evalPartsSpec) own started (by kernel_rfl) Tryz.func6
  (witness_row_atRef (enc:=enc) (C:=Tryz.checked) false (laidWorld os) #[.string ⟨#[]⟩,.string ⟨#[]⟩,.slice none 0 0] rfl (by kernel_rfl) (by kernel_rfl) (by kernel_rfl)
   (OpenSpec.preRow_of_cond 8 hx (by kernel_rfl) (fun k hk=>by cases hk; kernel_rfl) (by kernel_rfl) (laid_met os _))) ?_
 intro W base args ds gs before hval hW _ hcond _ hL _ _;exact contract6 H enc W base args ds gs before hval hW (hcond _ rfl) hL
set_option maxHeartbeats 0 in
theorem closed6:joinedFacts Tryz.pinned.checked.prog 6 Tryz.f6 (Rows.OpenSpec.upto Rows.evalPartsSpec).bare Rows.evalPartsUptoRow=true:=by
 simp only [joinedFacts,Bool.and_eq_true]
 repeat' apply And.intro
 all_goals as_aux_lemma=>kernel_rfl
set_option maxHeartbeats 0 in
theorem evalParts_over:Rows.evalPartsUptoRow.holds Tryz.pinned (Rows.OpenSpec.upto Rows.evalPartsSpec) :=
 OpenClaim.holds_of_cond 6 Tryz.f6 rfl rfl rfl rfl rfl rfl rfl ⟨rfl,rfl,rfl,rfl,rfl⟩ rfl rfl rfl rfl rfl (by kernel_rfl) Tryz.func6 closed6
  (of_decide_eq_true (by kernel_rfl)) (by unfold Func.isWrapper; first|(rw [if_pos (by decide +kernel)]; kernel_rfl)|(rw [if_neg (by decide +kernel)]; exact ⟨rfl,rfl⟩))
  (fun os started H enc _ F=>by rw [OpenClaim.pre_eq_preRow]; exact lifted6 os started H enc F)
theorem plain6 (f:FuncId)(fn:Func)(hf:Tryz.pinned.checked.prog.funcNamed Rows.evalPartsUptoRow.func=some f)(hfn:Tryz.pinned.checked.prog.funcs[f]?=some fn) :
  true=Tryz.pinned.checked.prog.looks []∧∀ (j:Nat) t,fn.params[j]?=some t→Tryz.pinned.checked.prog.wantsStandIn t=false:=by
 obtain rfl:f=6:=Option.some.inj ((show Tryz.prog.funcNamed Rows.evalPartsUptoRow.func=some 6 by kernel_rfl).symm.trans hf) |>.symm
 obtain rfl:fn=Tryz.f6:=(Option.some.inj (Tryz.func6.symm.trans hfn)).symm;refine ⟨by kernel_rfl,fun j t ht=>?_⟩
 have h:(Tryz.f6.params.all fun t=>Tryz.prog.wantsStandIn t == false)=true:=by kernel_rfl
 have hm:=Array.mem_of_getElem? ht;rw [Array.all_eq_true_iff_forall_mem] at h;have h2:=h t hm;simp only [beq_iff_eq] at h2;exact h2
theorem evalParts_upto:Rows.EvalPartsUptoCardSaid :=
 Claim7.holds_tied_plain_at .later [] _ _ _ _ evalParts_over (fun _ h=>by cases h) (by kernel_rfl) (fun _ h=>by cases h) evalPartsUpto_row_tie rfl ⟨rfl,rfl⟩ (by kernel_rfl) rfl plain6 (by kernel_rfl)
#print axioms evalParts_upto
end Go.Proofs.YtaldobgfbkllfaaGreatDoor
