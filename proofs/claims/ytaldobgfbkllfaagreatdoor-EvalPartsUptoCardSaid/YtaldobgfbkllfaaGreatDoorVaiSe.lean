import Derived.Test.YtaldobgfbkllfaaGreatDoorVaiSc
import Derived.KernelRfl
set_option linter.unusedSimpArgs false
set_option linter.unusedVariables false
set_option linter.unusedSectionVars false
namespace Go.Proofs.YtaldobgfbkllfaaGreatDoor
open Vai
variable [Gl]
set_option maxHeartbeats 0
set_option maxRecDepth 100000
abbrev iv (n:Int):T:=.int .i64 n
abbrev vv (k n:Int)(s:ByteArray):T:=.agg [iv k,iv n,.str s]
theorem v1:snapEnd (callQ cx okT primQ 1000 33 [.t (.str ⟨#[55,32,47,32,45,50]⟩)] .empty)=some (.tup [.t (vv 1 (-3) ⟨#[]⟩),.t (iv 0)]):=by kernel_rfl
theorem v2:snapEnd (callQ cx okT primQ 1000 33 [.t (.str ⟨#[55,32,37,32,45,50]⟩)] .empty)=some (.tup [.t (vv 1 1 ⟨#[]⟩),.t (iv 0)]):=by kernel_rfl
theorem v3:snapEnd (callQ cx okT primQ 1000 33 [.t (.str ⟨#[57,50,50,51,51,55,50,48,51,54,56,53,52,55,55,53,56,48,55,32,43,32,49]⟩)] .empty)=some (.tup [.t (vv 0 0 ⟨#[]⟩),.t (iv 141)]):=by kernel_rfl
theorem v4:snapEnd (callQ cx okT primQ 1000 33 [.t (.str ⟨#[102,97,108,115,101,32,38,38,32,49,32,47,32,48,32,61,61,32,49]⟩)] .empty)=some (.tup [.t (vv 2 0 ⟨#[]⟩),.t (iv 0)]):=by kernel_rfl
theorem v5:snapEnd (callQ cx okT primQ 1000 33 [.t (.str ⟨#[49,32,47,32,48,32,61,61,32,49,32,124,124,32,116,114,117,101]⟩)] .empty)=some (.tup [.t (vv 0 0 ⟨#[]⟩),.t (iv 142)]):=by kernel_rfl
theorem lv26:leaves Tryz.prog 26=some [.int,.int,.str]:=by kernel_rfl
theorem s14:∃ h',call cx prim 14 [] .empty=some (.t (.bool true),h'):=by
 have q1:=fun h=>pureQ2 (cx:=cx) primLe okQ (c:=14) cb33 rfl v1 h rfl
 have q2:=fun h=>pureQ2 (cx:=cx) primLe okQ (c:=14) cb33 rfl v2 h rfl
 have q3:=fun h=>pureQ2 (cx:=cx) primLe okQ (c:=14) cb33 rfl v3 h rfl
 have q4:=fun h=>pureQ2 (cx:=cx) primLe okQ (c:=14) cb33 rfl v4 h rfl
 have q5:=fun h=>pureQ2 (cx:=cx) primLe okQ (c:=14) cb33 rfl v5 h rfl
 rw [call_run (cx:=cx) rfl Tryz.func14 ok14 nd14 rfl (lbe rfl) rfl rfl];simp -implicitDefEqProofs (disch:=omega) [q1,q2,q3,q4,q5,lv26,eqCells,eqCell,eqI,eqS]
theorem c14 {c:FuncId}(h:H)(hm:md c 14 = .pure):callD (cx.at c) (call cx prim) 14 [] h=some (.t (.bool true),h):=by
 obtain ⟨h',q⟩:=s14;exact pureT cb14 hm q rfl rfl
theorem s105 (n:Int):∃ h',call cx prim 105 [.t (iv n)] .empty=some (.t (vv 1 n ⟨#[]⟩),h'):=by
 rw [call_run (cx:=cx) rfl Tryz.func105 ok105 nd105 rfl (lbe rfl) rfl rfl];simp -implicitDefEqProofs (disch:=omega)
theorem s104 (b:Bool):∃ h',call cx prim 104 [.t (.bool b)] .empty=some (.t (vv 2 (if b then 1 else 0) ⟨#[]⟩),h'):=by
 rw [call_run (cx:=cx) rfl Tryz.func104 ok104 nd104 rfl (lbe rfl) rfl rfl];cases b<;>simp -implicitDefEqProofs (disch:=omega)
theorem s144 (a b:Int):∃ h',call cx prim 144 [.t (iv a),.t (iv b)] .empty=some (.tup [.t (iv (IntKind.i64.wrap (a+b))),.t (.bool (ltI a (IntKind.i64.wrap (a+b)) == ltI 0 b))],h'):=by
 rw [call_run (cx:=cx) rfl Tryz.func144 ok144 nd144 rfl (lbe rfl) rfl rfl];simp -implicitDefEqProofs (disch:=omega)
theorem s145 (a b:Int):∃ h',call cx prim 145 [.t (iv a),.t (iv b)] .empty=some (.tup [.t (iv (IntKind.i64.wrap (a-b))),.t (.bool (ltI (IntKind.i64.wrap (a-b)) a == ltI 0 b))],h'):=by
 rw [call_run (cx:=cx) rfl Tryz.func145 ok145 nd145 rfl (lbe rfl) rfl rfl];simp -implicitDefEqProofs (disch:=omega)
theorem s147 (a b:Int)(hb:b≠0):∃ h',call cx prim 147 [.t (iv a),.t (iv b)] .empty=some (.tup [.t (iv (IntKind.i64.wrap (a.tdiv b))),.t (.bool (!(eqI a (-9223372036854775808)&&eqI b (-1))))],h'):=by
 rw [call_run (cx:=cx) rfl Tryz.func147 ok147 nd147 rfl (lbe rfl) rfl rfl];cases h1:eqI a (-9223372036854775808)<;>simp -implicitDefEqProofs (disch:=omega) [hb,h1]
theorem s143 (a b:Int)(hb:b≠0):∃ h',call cx prim 143 [.t (iv a),.t (iv b)] .empty=some (.tup [.t (iv (a.tmod b)),.t (.bool true)],h'):=by
 rw [call_run (cx:=cx) rfl Tryz.func143 ok143 nd143 rfl (lbe rfl) rfl rfl];simp -implicitDefEqProofs (disch:=omega) [hb]
abbrev numsM:AObj:=.map [(.int .i64 9,.func (.func 144) [] [],0),(.int .i64 10,.func (.func 145) [] [],1),(.int .i64 6,.func (.func 146) [] [],2),(.int .i64 7,.func (.func 147) [] [],3),(.int .i64 8,.func (.func 143) [] [],4)] 5
theorem s107 (h:H)(hm:h.marks=[]):call cx prim 107 [] h=some (.map h.next,h.push numsM):=by
 rw [call_run (cx:=cx) rfl Tryz.func107 ok107 nd107 rfl (lbe rfl) rfl rfl];simp -implicitDefEqProofs (disch:=omega) [makeMapD,mapUpdateD,findT,keyEq,isKeyT,TK.isKey,H.may,H.push,hm,eqI];simp only [H.set,H.mk.injEq,and_true]
 funext k
 by_cases e:k=h.next<;>simp [upd,e]
abbrev minI:Int:=-9223372036854775808
theorem s146z (a b:Int)(h:a=0∨b=0):∃ h',call cx prim 146 [.t (iv a),.t (iv b)] .empty=some (.tup [.t (iv 0),.t (.bool true)],h'):=by
 rw [call_run (cx:=cx) rfl Tryz.func146 ok146 nd146 rfl (lbe rfl) rfl rfl];have h0:∀ x:Int,eqI x 0=decide (x=0):=fun x=>by simp [eqI]
 by_cases ha:a=0
 · simp -implicitDefEqProofs (disch:=omega) [h0,ha]
 · have hb:b=0:=by omega
   simp -implicitDefEqProofs (disch:=omega) [h0,ha,hb]
theorem s146 (a b:Int)(ha:a≠0)(hb:b≠0):∃ h',call cx prim 146 [.t (iv a),.t (iv b)] .empty=some (.tup [.t (iv (IntKind.i64.wrap (a*b))),.t (.bool (
  (eqI (IntKind.i64.wrap ((IntKind.i64.wrap (a*b)).tdiv b)) a && !(eqI a (-1)&&eqI b minI)) && !(eqI b (-1)&&eqI a minI)))],h'):=by
 rw [call_run (cx:=cx) rfl Tryz.func146 ok146 nd146 rfl (lbe rfl) rfl rfl];have h0:∀ x:Int,eqI x 0=decide (x=0):=fun x=>by simp [eqI]
 have hne:decide (a=0)=false∧decide (b=0)=false:=by simp [ha,hb]
 generalize h1:eqI (IntKind.i64.wrap ((IntKind.i64.wrap (a*b)).tdiv b)) a=B1;generalize h2:eqI a (-1)=B2;generalize h3:eqI b (-1)=B3;generalize h4:eqI b minI=B4;generalize h5:eqI a minI=B5;cases B1<;>cases B2<;>cases B3<;>cases B4<;>simp -implicitDefEqProofs (disch:=omega) [h0,hne,h1,h2,h3,h4,h5,hb]
theorem s166 (a:Int):∃ h',call cx prim 166 [.t (iv a)] .empty=some (.t (.bool false),h'):=by
 rw [call_run (cx:=cx) rfl Tryz.func166 ok166 nd166 rfl (lbe rfl) rfl rfl];simp -implicitDefEqProofs (disch:=omega) [eqI]
theorem s167 (a:ByteArray):∃ h',call cx prim 167 [.t (.str a)] .empty=some (.t (.bool false),h'):=by
 rw [call_run (cx:=cx) rfl Tryz.func167 ok167 nd167 rfl (lbe rfl) rfl rfl];simp -implicitDefEqProofs (disch:=omega) [eqS]
theorem c166 {c:FuncId}(a:Int)(h:H)(hm:md c 166 = .pure):callD (cx.at c) (call cx prim) 166 [.t (iv a)] h=some (.t (.bool false),h):=by
 obtain ⟨h',q⟩:=s166 a;exact pureT cb166 hm q rfl rfl
theorem c167 {c:FuncId}(a:ByteArray)(h:H)(hm:md c 167 = .pure):callD (cx.at c) (call cx prim) 167 [.t (.str a)] h=some (.t (.bool false),h):=by
 obtain ⟨h',q⟩:=s167 a;exact pureT cb167 hm q rfl rfl
def cmpI (a b:Int):Int:=if a<b then -1 else if b<a then 1 else 0
theorem s149 (a b:Int):∃ h',call cx prim 149 [.t (iv a),.t (iv b)] .empty=some (.t (iv (cmpI a b)),h'):=by
 rw [call_run (cx:=cx) rfl Tryz.func149 ok149 nd149 rfl (lbe rfl) rfl rfl];have q:=fun a h=>c166 (c:=149) a h rfl
 unfold cmpI;by_cases h1:a<b
 · simp -implicitDefEqProofs (disch:=omega) [q,h1,ltI]
 · by_cases h2:b<a
   · simp -implicitDefEqProofs (disch:=omega) [q,h1,h2,ltI]
   · simp -implicitDefEqProofs (disch:=omega) [q,h1,h2,ltI]
def cmpB (a b:ByteArray):Int:=if Op.bytesLess a.toList b.toList then -1 else if Op.bytesLess b.toList a.toList then 1 else 0
theorem s150 (a b:ByteArray):∃ h',call cx prim 150 [.t (.str a),.t (.str b)] .empty=some (.t (iv (cmpB a b)),h'):=by
 rw [call_run (cx:=cx) rfl Tryz.func150 ok150 nd150 rfl (lbe rfl) rfl rfl];have q:=fun a h=>c167 (c:=150) a h rfl
 unfold cmpB;generalize h1:Op.bytesLess a.toList b.toList=B1;generalize h2:Op.bytesLess b.toList a.toList=B2;cases B1
 · cases B2<;>simp -implicitDefEqProofs (disch:=omega) [q,h1,h2]
 · simp -implicitDefEqProofs (disch:=omega) [q,h1]
theorem s148 (x y:Int):∃ h',call cx prim 148 [.t (.slice [iv x,iv y])] .empty=some (.t (iv (if x=0 then y else x)),h'):=by
 rw [call_run (cx:=cx) rfl Tryz.func148 ok148 nd148 rfl (lbe rfl) rfl rfl];by_cases hx:x=0
 · subst hx
   by_cases hy:y=0
   · subst hy
     simp -implicitDefEqProofs (disch:=omega) [eqI];rw [loop_step,LB_run nd148 rfl]; simp -implicitDefEqProofs (disch:=omega) [eqI];rw [loop_step,LB_run nd148 rfl]; simp -implicitDefEqProofs (disch:=omega) [eqI];rw [loop_step,LB_run nd148 rfl]; simp -implicitDefEqProofs (disch:=omega) [eqI]
   · simp -implicitDefEqProofs (disch:=omega) [eqI]
     rw [loop_step,LB_run nd148 rfl]; simp -implicitDefEqProofs (disch:=omega) [eqI];rw [loop_step,LB_run nd148 rfl]; simp -implicitDefEqProofs (disch:=omega) [eqI,hy]
 · simp -implicitDefEqProofs (disch:=omega) [eqI]
   rw [loop_step,LB_run nd148 rfl]; simp -implicitDefEqProofs (disch:=omega) [eqI,hx]
theorem c149 {c:FuncId}(a b:Int)(h:H)(hm:md c 149 = .pure):callD (cx.at c) (call cx prim) 149 [.t (iv a),.t (iv b)] h=some (.t (iv (cmpI a b)),h):=by
 obtain ⟨h',q⟩:=s149 a b;exact pureT cb149 hm q rfl rfl
theorem c150 {c:FuncId}(a b:ByteArray)(h:H)(hm:md c 150 = .pure):callD (cx.at c) (call cx prim) 150 [.t (.str a),.t (.str b)] h=some (.t (iv (cmpB a b)),h):=by
 obtain ⟨h',q⟩:=s150 a b;exact pureT cb150 hm q rfl rfl
theorem c148 {c:FuncId}(x y:Int)(h:H)(hm:md c 148 = .pure):callD (cx.at c) (call cx prim) 148 [.t (.slice [iv x,iv y])] h=some (.t (iv (if x=0 then y else x)),h):=by
 obtain ⟨h',q⟩:=s148 x y;exact pureT cb148 hm q rfl rfl
def cmpV (n n':Int)(s s':ByteArray):Int:=if cmpI n n'=0 then cmpB s s' else cmpI n n'
theorem s109 (k n:Int)(s:ByteArray)(k' n':Int)(s':ByteArray):∃ h',call cx prim 109 [.t (vv k n s),.t (vv k' n' s')] .empty=some (.t (iv (cmpV n n' s s')),h'):=by
 rw [call_run (cx:=cx) rfl Tryz.func109 ok109 nd109 rfl (lbe rfl) rfl rfl];have q1:=fun a b h=>c149 (c:=109) a b h rfl
 have q2:=fun a b h=>c150 (c:=109) a b h rfl
 have q3:=fun a b h=>c148 (c:=109) a b h rfl
 simp -implicitDefEqProofs (disch:=omega) [q1,q2,q3,cmpV,litSliceD,setsD,List.replicate]
def holdsC (k c:Int):Bool:=if k=11 then eqI c 0 else if k=12 then !eqI c 0 else if k=13 then ltI c 0 else if k=14 then leI c 0 else if k=15 then ltI 0 c else if k=16 then leI 0 c else false
theorem s108 (k c:Int):∃ h',call cx prim 108 [.t (iv k),.t (iv c)] .empty=some (.t (.bool (holdsC k c)),h'):=by
 rw [call_run (cx:=cx) rfl Tryz.func108 ok108 nd108 rfl (lbe rfl) rfl rfl];unfold holdsC;by_cases h1:k=11
 · simp -implicitDefEqProofs (disch:=omega) [makeMapD,mapUpdateD,lookupD,okD,findT,keyEq,isKeyT,TK.isKey,H.may,H.push,H.set,eqI,h1]
 by_cases h2:k=12
 · simp -implicitDefEqProofs (disch:=omega) [makeMapD,mapUpdateD,lookupD,okD,findT,keyEq,isKeyT,TK.isKey,H.may,H.push,H.set,eqI,h2]
 by_cases h3:k=13
 · simp -implicitDefEqProofs (disch:=omega) [makeMapD,mapUpdateD,lookupD,okD,findT,keyEq,isKeyT,TK.isKey,H.may,H.push,H.set,eqI,h3]
 by_cases h4:k=14
 · simp -implicitDefEqProofs (disch:=omega) [makeMapD,mapUpdateD,lookupD,okD,findT,keyEq,isKeyT,TK.isKey,H.may,H.push,H.set,eqI,h4]
 by_cases h5:k=15
 · simp -implicitDefEqProofs (disch:=omega) [makeMapD,mapUpdateD,lookupD,okD,findT,keyEq,isKeyT,TK.isKey,H.may,H.push,H.set,eqI,h5]
 by_cases h6:k=16
 · simp -implicitDefEqProofs (disch:=omega) [makeMapD,mapUpdateD,lookupD,okD,findT,keyEq,isKeyT,TK.isKey,H.may,H.push,H.set,eqI,h6]
 simp -implicitDefEqProofs (disch:=omega) [makeMapD,mapUpdateD,lookupD,okD,findT,keyEq,isKeyT,TK.isKey,H.may,H.push,H.set,eqI,h1,h2,h3,h4,h5,h6]
end Go.Proofs.YtaldobgfbkllfaaGreatDoor
