/- Signs bind in their order, those of one level from the left: the law FormulaBinds answers true. Conditions: the arguments hold together at most 1048576 values and letters. -/
import Derived.Test.YtaldobgfbkllfaaGreatDoorYA10
import Derived.Test.YtaldobgfbkllfaaGreatDoorVaiSu
import Derived.WalkKit
import Derived.ProofKit
import Derived.OpenShut
import Derived.JoinedCond
set_option linter.unusedSimpArgs false
set_option linter.unusedVariables false
set_option linter.unusedSectionVars false
namespace Go.Proofs.YtaldobgfbkllfaaGreatDoor
open Vai
open Go.ChangeShapes Go.WideShapes Go.ChangeAt Go.RowKit
theorem shape10:allM (shapeOf Tryz.prog 8) Tryz.f10.params.toList=some [.int .u8,.int .u8]:=by kernel_rfl
theorem read10:(Tryz.f10.params.toList.all fun t=>Tryz.prog.readableRec t&&decide (t<Tryz.prog.types.size))=true:=by kernel_rfl
theorem res10:Tryz.f10.resultTypes = #[4]:=rfl
set_option maxRecDepth 100000 in
theorem contract10 (H:Type)(enc:TypeId × Value→H)(W:World)(base:Nat)(args:Array Value)(ds gs:List (DataW H))(before:List MemPlace)
  (hval:∀ (j:Nat) t v,Tryz.f10.params[j]?=some t→args[j]?=some v→Value.okWide Tryz.prog W .any base t v)
  (hW:DataW.Whole enc Tryz.prog Tryz.f10.params.toList Rows.formulaBindsSpec.vars false W args.toList ds gs before) (hk:Rows.uptoSmall H (ds++gs)=true) (hL:laidMetH Tryz.prog Rows.formulaBindsUptoRow.laid W) :
  Calls Tryz.prog 10 args W fun e W'=>∃ v,e = .returned v∧Rows.formulaBindsSpec.post enc Tryz.prog Tryz.f10 false true false false W args v W':=by
 have hs:=small_le hk
 have hsp:∀ ds:List (DataW H),ds.length=Tryz.f10.params.size→Rows.formulaBindsSpec.fn H ds={ results:=[.lit (.bool true)],args:=ds }:=fun ds hds=>match ds,hds with
  | [_,_],_=>rfl
 have h4:Tryz.prog.underlying 4=some .bool:=Tryz.underlying4;have hv:Rows.formulaBindsSpec.vars=[]:=rfl;exact law_contract (P:=Tryz.prog) (cx:=cx) (prim:=prim) (k:=10) (f:=Tryz.f10) (s:=Rows.formulaBindsSpec) (bound:=1048576) (shs:=[.int .u8,.int .u8]) (n:=8) rfl mixed primOK laid read10 shape10 res10 h4 hv hsp (bulk H) answers10 hval hW hs (laid_glob2 hL)
set_option maxRecDepth 100000 in
theorem lifted10 (os:Os)(started:os.Started)(H:Type)(enc:TypeId × Value→H)(F:Stop.Interp) :
  ReturnsInHanded {} Tryz.checked os 10 .any ((Rows.OpenSpec.upto Rows.formulaBindsSpec).preRow enc Tryz.prog Tryz.f10 Rows.formulaBindsUptoRow.domain false Rows.formulaBindsUptoRow.laid) (((Rows.OpenSpec.upto Rows.formulaBindsSpec).at F).post enc Tryz.prog Tryz.f10 false true false false):=by
 have hw:(DataW.whole enc Tryz.prog ((laidWorld1 os).forCall (fun _ _=>0) ⟨#[],#[.int .u8 0,.int .u8 0],[]⟩).memory Tryz.f10.params.toList Rows.formulaBindsSpec.vars false (#[.int .u8 0,.int .u8 0]:Array Value).toList 8).map (fun x=>(x.1,x.2.1))=some ([.lit (.int .u8 0),.lit (.int .u8 0)],[]):=by kernel_rfl
 obtain ⟨⟨x1,x2,x3⟩,hx,hx1⟩:=Option.map_eq_some_iff.1 hw;simp only [Prod.mk.injEq] at hx1;obtain ⟨rfl,rfl⟩:=hx1;refine returnsInHanded_of_row (C:=Tryz.checked) (s:=Rows.OpenSpec.upto Rows.formulaBindsSpec) own started (by kernel_rfl) Tryz.func10
  (witness_row_atRef (enc:=enc) (C:=Tryz.checked) false (laidWorld1 os) #[.int .u8 0,.int .u8 0] rfl (by kernel_rfl) (by kernel_rfl) (by kernel_rfl)
   (OpenSpec.preRow_of_cond 8 hx (by kernel_rfl) (fun k hk=>by cases hk; kernel_rfl) (by kernel_rfl) (laid_met2 os _))) ?_
 intro W base args ds gs before hval hW _ hcond _ hL _ _;exact contract10 H enc W base args ds gs before hval hW (hcond _ rfl) hL
set_option maxHeartbeats 0 in
theorem closed10:joinedFacts Tryz.pinned.checked.prog 10 Tryz.f10 (Rows.OpenSpec.upto Rows.formulaBindsSpec).bare Rows.formulaBindsUptoRow=true:=by
 simp only [joinedFacts,Bool.and_eq_true]
 repeat' apply And.intro
 all_goals as_aux_lemma=>kernel_rfl
set_option maxHeartbeats 0 in
theorem formulaBinds_over:Rows.formulaBindsUptoRow.holds Tryz.pinned (Rows.OpenSpec.upto Rows.formulaBindsSpec) :=
 OpenClaim.holds_of_cond 10 Tryz.f10 rfl rfl rfl rfl rfl rfl rfl ⟨rfl,rfl,rfl,rfl,rfl⟩ rfl rfl rfl rfl rfl (by kernel_rfl) Tryz.func10 closed10
  (of_decide_eq_true (by kernel_rfl)) (by unfold Func.isWrapper; first|(rw [if_pos (by decide +kernel)]; kernel_rfl)|(rw [if_neg (by decide +kernel)]; exact ⟨rfl,rfl⟩))
  (fun os started H enc _ F=>by rw [OpenClaim.pre_eq_preRow]; exact lifted10 os started H enc F)
theorem plain10 (f:FuncId)(fn:Func)(hf:Tryz.pinned.checked.prog.funcNamed Rows.formulaBindsUptoRow.func=some f)(hfn:Tryz.pinned.checked.prog.funcs[f]?=some fn) :
  true=Tryz.pinned.checked.prog.looks []∧∀ (j:Nat) t,fn.params[j]?=some t→Tryz.pinned.checked.prog.wantsStandIn t=false:=by
 obtain rfl:f=10:=Option.some.inj ((show Tryz.prog.funcNamed Rows.formulaBindsUptoRow.func=some 10 by kernel_rfl).symm.trans hf) |>.symm
 obtain rfl:fn=Tryz.f10:=(Option.some.inj (Tryz.func10.symm.trans hfn)).symm;refine ⟨by kernel_rfl,fun j t ht=>?_⟩
 have h:(Tryz.f10.params.all fun t=>Tryz.prog.wantsStandIn t == false)=true:=by kernel_rfl
 have hm:=Array.mem_of_getElem? ht;rw [Array.all_eq_true_iff_forall_mem] at h;have h2:=h t hm;simp only [beq_iff_eq] at h2;exact h2
theorem formulaBinds_upto:Rows.FormulaBindsUptoCardSaid :=
 Claim7.holds_tied_plain_at .later [] _ _ _ _ formulaBinds_over (fun _ h=>by cases h) (by kernel_rfl) (fun _ h=>by cases h) formulaBindsUpto_row_tie rfl ⟨rfl,rfl⟩ (by kernel_rfl) rfl plain10 (by kernel_rfl)
#print axioms formulaBinds_upto
end Go.Proofs.YtaldobgfbkllfaaGreatDoor
