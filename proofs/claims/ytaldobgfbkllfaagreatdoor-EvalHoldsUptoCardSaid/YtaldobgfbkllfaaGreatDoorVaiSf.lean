import Derived.Test.YtaldobgfbkllfaaGreatDoorVaiSe
import Derived.Test.YtaldobgfbkllfaaGreatDoorVaiSc
import Derived.KernelRfl
set_option linter.unusedSimpArgs false
set_option linter.unusedVariables false
set_option linter.unusedSectionVars false
namespace Go.Proofs.YtaldobgfbkllfaaGreatDoor
open Vai
variable [Gl]
set_option maxHeartbeats 0
def getW (vs:List WV)(nm:ByteArray):Option WV:=vs.find? fun v=>eqS v.1 nm
def getT (vs:List WV)(nm:ByteArray):T:=match getW vs nm with|some v=>valT v.2.1 v.2.2.1 v.2.2.2|none=>valT 0 0 ⟨#[]⟩
theorem find_drop {vs:List WV}{nm:ByteArray}{k:Nat}{v:WV}(hv:vs[k]?=some v):(vs.drop k).find? (fun v=>eqS v.1 nm)=if eqS v.1 nm=true then some v else (vs.drop (k+1)).find? fun v=>eqS v.1 nm:=by
 have hlt:k<vs.length:=by
  apply Classical.byContradiction;intro hn;rw [List.getElem?_eq_none (by omega)] at hv
  cases hv
 rw [List.drop_eq_getElem_cons hlt];rw [List.getElem?_eq_getElem hlt] at hv;rw [Option.some.inj hv,List.find?_cons];cases eqS v.1 nm<;>rfl
abbrev zeroV:AObj:=.row 26 3 [.t (valT 0 0 ⟨#[]⟩)]
theorem s56 {x:T}{vs:List WV}{nm:ByteArray}(hx:Slice x (vs.map varW))(hs:vs.length≤2000000):∃ h',call cx prim 56 [.t x,.t (.str nm)] .empty=some (.tup [.t (getT vs nm),.t (.bool (getW vs nm).isSome)],h'):=by
 rw [call_run (cx:=cx) rfl Tryz.func56 ok56 nd56 rfl (lbe rfl) rfl rfl];have hlx:=fun hh=>hx.len (P:=Tryz.prog) (t:=23) tk23 hh
 rw [List.length_map] at hlx;simp -implicitDefEqProofs (disch:=omega) [];generalize hLp:loopω _ _=L;obtain ⟨x',⟨nn,env,h2⟩,rfl,rfl,hq⟩:=loop_uses hLp vs.length
   (fun k st=>st.n=26∧st.env 0 = .t x∧st.env 1 = .t (.str nm)∧st.env 4 = .ptr 0 0 0 1∧st.env 6 = .t (.int .i64 k)∧st.h=H.empty.push zeroV∧(vs.drop k).find? (fun v=>eqS v.1 nm)=getW vs nm)
   (fun x' st=>st.n=26∧st.env 4 = .ptr 0 0 0 1∧((x' = .exit 0∧getW vs nm=none∧st.h=H.empty.push zeroV)∨(x' = .ret∧∃ v,getW vs nm=some v∧st.env 5 = .t (.bool true)∧st.h=H.empty.push (.row 26 3 [.t (valT v.2.1 v.2.2.1 v.2.2.2)]))))
   (by refine ⟨rfl,?_⟩; simp [getW]) (by
   rintro k ⟨nn,env,h2⟩ hk ⟨rfl,e0,e1,e4,e6,rfl,hb⟩;simp only at e0 e1 e4 e6;rw [LB_run nd56 rfl];by_cases hk':k<vs.length
   · obtain ⟨v,hv⟩:∃ v,vs[k]?=some v:=⟨vs[k],by simp [hk']⟩
     have hxe:x = .slice (vs.map varW):=hx.eq_of_ne (by intro e; have:=congrArg List.length e; simp at this; subst this; simp at hk')
     subst hxe;have hg:(vs.map varW)[k]?=some (varW v):=by rw [List.getElem?_map,hv]; rfl
     have c1:(k:Int)<vs.length:=by omega
     rw [find_drop hv] at hb
     cases he:eqS v.1 nm with
     | true =>
      rw [he,if_pos rfl] at hb;simp -implicitDefEqProofs (disch:=omega) [-List.getElem?_map,e0,e1,e4,e6,hlx,hg,he,Wp_some];exact ⟨v.1,v.2.1,v.2.2.1,v.2.2.2,hb.symm,rfl⟩
     | false =>
      rw [he,if_neg (by simp)] at hb
      simp -implicitDefEqProofs (disch:=omega) [-List.getElem?_map,e0,e1,e4,e6,hlx,hg,he,Wp_some];exact ⟨hk',hb⟩
   · obtain rfl:k=vs.length:=by omega
     rw [List.drop_length] at hb;simp -implicitDefEqProofs (disch:=omega) [e0,e1,e4,e6,hlx,Wp_some];exact hb.symm)
 unfold getT;rcases hq with ⟨e4,hq⟩
 rcases hq with ⟨rfl,hb,rfl⟩|⟨rfl,v,hb,e5,rfl⟩
 · simp only at e4
   rw [hb];simp -implicitDefEqProofs (disch:=omega) [e4]
 · simp only at e4 e5
   rw [hb];simp -implicitDefEqProofs (disch:=omega) [e4,e5]
theorem s54 {x:T}{vs:List WV}{nm:ByteArray}(hx:Slice x (vs.map varW))(hs:vs.length≤2000000):∃ h',call cx prim 54 [.t x,.t (.str nm)] .empty=some (.tup [.t (getT vs nm),.t (.bool (getW vs nm).isSome)],h'):=by
 rw [call_run (cx:=cx) rfl Tryz.func54 ok54 nd54 rfl (lbe rfl) rfl rfl];have hlx:=fun hh=>hx.len (P:=Tryz.prog) (t:=23) tk23 hh
 rw [List.length_map] at hlx;simp -implicitDefEqProofs (disch:=omega) [hlx];generalize hLp:loopω _ _=L;obtain ⟨x',⟨nn,env,h2⟩,rfl,rfl,hq⟩:=loop_uses hLp vs.length
   (fun k st=>st.n=22∧st.env 1 = .t (.str nm)∧st.env 4 = .ptr 0 0 0 1∧st.env 8 = .t x∧st.env 9 = .t (.int .i64 vs.length)∧st.env 10 = .t (.int .i64 k)∧st.h.objs 0=some zeroV∧0<st.h.next∧(vs.drop k).find? (fun v=>eqS v.1 nm)=getW vs nm)
   (fun x' st=>st.n=22∧st.env 4 = .ptr 0 0 0 1∧((x' = .exit 0∧getW vs nm=none∧st.h.objs 0=some zeroV)∨(x' = .ret∧∃ v,getW vs nm=some v∧st.env 5 = .t (.bool true)∧st.h.objs 0=some (.row 26 3 [.t (valT v.2.1 v.2.2.1 v.2.2.2)]))))
   (by refine ⟨rfl,?_⟩; simp [getW]) (by
   rintro k ⟨nn,env,h2⟩ hk ⟨rfl,e1,e4,e8,e9,e10,ho,hn,hb⟩;simp only at e1 e4 e8 e9 e10 ho hn;rw [LB_run nd54 rfl];have n0:¬ (0=h2.next):=by omega
   by_cases hk':k<vs.length
   · obtain ⟨v,hv⟩:∃ v,vs[k]?=some v:=⟨vs[k],by simp [hk']⟩
     have hxe:x = .slice (vs.map varW):=hx.eq_of_ne (by intro e; have:=congrArg List.length e; simp at this; subst this; simp at hk')
     subst hxe;have hg:(vs.map varW)[k]?=some (varW v):=by rw [List.getElem?_map,hv]; rfl
     have c1:(k:Int)<vs.length:=by omega
     rw [find_drop hv] at hb
     cases he:eqS v.1 nm with
     | true =>
      rw [he,if_pos rfl] at hb;simp -implicitDefEqProofs (disch:=omega) [-List.getElem?_map,e1,e4,e8,e9,e10,ho,n0,hg,he,Wp_some];exact ⟨v.1,v.2.1,v.2.2.1,v.2.2.2,hb.symm,rfl,rfl,rfl⟩
     | false =>
      rw [he,if_neg (by simp)] at hb
      simp -implicitDefEqProofs (disch:=omega) [-List.getElem?_map,e1,e4,e8,e9,e10,ho,n0,hg,he,Wp_some];refine ⟨hk',?_⟩;exact hb
   · obtain rfl:k=vs.length:=by omega
     rw [List.drop_length] at hb;simp -implicitDefEqProofs (disch:=omega) [e1,e4,e8,e9,e10,ho,n0,Wp_some];exact hb.symm)
 unfold getT;rcases hq with ⟨e4,hq⟩
 rcases hq with ⟨rfl,hb,ho⟩|⟨rfl,v,hb,e5,ho⟩
 · simp only at e4 ho
   rw [hb];simp -implicitDefEqProofs (disch:=omega) [e4,ho]
 · simp only at e4 e5 ho
   rw [hb];simp -implicitDefEqProofs (disch:=omega) [e4,e5,ho]
end Go.Proofs.YtaldobgfbkllfaaGreatDoor

namespace Go.Proofs.YtaldobgfbkllfaaGreatDoor
open Vai
variable [Gl]
set_option maxHeartbeats 0
set_option maxRecDepth 100000
abbrev iv (n:Int):T:=.int .i64 n
abbrev vv (k n:Int)(s:ByteArray):T:=.agg [iv k,iv n,.str s]
theorem v1:snapEnd (callQ cx okT primQ 1000 33 [.t (.str ⟨#[55,32,47,32,45,50]⟩)] .empty)=some (.tup [.t (vv 1 (-3) ⟨#[]⟩),.t (iv 0)]):=by kernel_rfl
theorem v2:snapEnd (callQ cx okT primQ 1000 33 [.t (.str ⟨#[55,32,37,32,45,50]⟩)] .empty)=some (.tup [.t (vv 1 1 ⟨#[]⟩),.t (iv 0)]):=by kernel_rfl
theorem v3:snapEnd (callQ cx okT primQ 1000 33 [.t (.str ⟨#[57,50,50,51,51,55,50,48,51,54,56,53,52,55,55,53,56,48,55,32,43,32,49]⟩)] .empty)=some (.tup [.t (vv 0 0 ⟨#[]⟩),.t (iv 141)]):=by kernel_rfl
theorem v4:snapEnd (callQ cx okT primQ 1000 33 [.t (.str ⟨#[102,97,108,115,101,32,38,38,32,49,32,47,32,48,32,61,61,32,49]⟩)] .empty)=some (.tup [.t (vv 2 0 ⟨#[]⟩),.t (iv 0)]):=by kernel_rfl
theorem v5:snapEnd (callQ cx okT primQ 1000 33 [.t (.str ⟨#[49,32,47,32,48,32,61,61,32,49,32,124,124,32,116,114,117,101]⟩)] .empty)=some (.tup [.t (vv 0 0 ⟨#[]⟩),.t (iv 142)]):=by kernel_rfl
theorem lv26:leaves Tryz.prog 26=some [.int,.int,.str]:=by kernel_rfl
theorem s14:∃ h',call cx prim 14 [] .empty=some (.t (.bool true),h'):=by
 have q1:=fun h=>pureQ2 (cx:=cx) primLe okQ (c:=14) cb33 rfl v1 h rfl
 have q2:=fun h=>pureQ2 (cx:=cx) primLe okQ (c:=14) cb33 rfl v2 h rfl
 have q3:=fun h=>pureQ2 (cx:=cx) primLe okQ (c:=14) cb33 rfl v3 h rfl
 have q4:=fun h=>pureQ2 (cx:=cx) primLe okQ (c:=14) cb33 rfl v4 h rfl
 have q5:=fun h=>pureQ2 (cx:=cx) primLe okQ (c:=14) cb33 rfl v5 h rfl
 rw [call_run (cx:=cx) rfl Tryz.func14 ok14 nd14 rfl (lbe rfl) rfl rfl];simp -implicitDefEqProofs (disch:=omega) [q1,q2,q3,q4,q5,lv26,eqCells,eqCell,eqI,eqS]
theorem c14 {c:FuncId}(h:H)(hm:md c 14 = .pure):callD (cx.at c) (call cx prim) 14 [] h=some (.t (.bool true),h):=by
 obtain ⟨h',q⟩:=s14;exact pureT cb14 hm q rfl rfl
theorem s105 (n:Int):∃ h',call cx prim 105 [.t (iv n)] .empty=some (.t (vv 1 n ⟨#[]⟩),h'):=by
 rw [call_run (cx:=cx) rfl Tryz.func105 ok105 nd105 rfl (lbe rfl) rfl rfl];simp -implicitDefEqProofs (disch:=omega)
theorem s104 (b:Bool):∃ h',call cx prim 104 [.t (.bool b)] .empty=some (.t (vv 2 (if b then 1 else 0) ⟨#[]⟩),h'):=by
 rw [call_run (cx:=cx) rfl Tryz.func104 ok104 nd104 rfl (lbe rfl) rfl rfl];cases b<;>simp -implicitDefEqProofs (disch:=omega)
theorem s144 (a b:Int):∃ h',call cx prim 144 [.t (iv a),.t (iv b)] .empty=some (.tup [.t (iv (IntKind.i64.wrap (a+b))),.t (.bool (ltI a (IntKind.i64.wrap (a+b)) == ltI 0 b))],h'):=by
 rw [call_run (cx:=cx) rfl Tryz.func144 ok144 nd144 rfl (lbe rfl) rfl rfl];simp -implicitDefEqProofs (disch:=omega)
theorem s145 (a b:Int):∃ h',call cx prim 145 [.t (iv a),.t (iv b)] .empty=some (.tup [.t (iv (IntKind.i64.wrap (a-b))),.t (.bool (ltI (IntKind.i64.wrap (a-b)) a == ltI 0 b))],h'):=by
 rw [call_run (cx:=cx) rfl Tryz.func145 ok145 nd145 rfl (lbe rfl) rfl rfl];simp -implicitDefEqProofs (disch:=omega)
theorem s147 (a b:Int)(hb:b≠0):∃ h',call cx prim 147 [.t (iv a),.t (iv b)] .empty=some (.tup [.t (iv (IntKind.i64.wrap (a.tdiv b))),.t (.bool (!(eqI a (-9223372036854775808)&&eqI b (-1))))],h'):=by
 rw [call_run (cx:=cx) rfl Tryz.func147 ok147 nd147 rfl (lbe rfl) rfl rfl];cases h1:eqI a (-9223372036854775808)<;>simp -implicitDefEqProofs (disch:=omega) [hb,h1]
theorem s143 (a b:Int)(hb:b≠0):∃ h',call cx prim 143 [.t (iv a),.t (iv b)] .empty=some (.tup [.t (iv (a.tmod b)),.t (.bool true)],h'):=by
 rw [call_run (cx:=cx) rfl Tryz.func143 ok143 nd143 rfl (lbe rfl) rfl rfl];simp -implicitDefEqProofs (disch:=omega) [hb]
abbrev numsM:AObj:=.map [(.int .i64 9,.func (.func 144) [] [],0),(.int .i64 10,.func (.func 145) [] [],1),(.int .i64 6,.func (.func 146) [] [],2),(.int .i64 7,.func (.func 147) [] [],3),(.int .i64 8,.func (.func 143) [] [],4)] 5
theorem s107 (h:H)(hm:h.marks=[]):call cx prim 107 [] h=some (.map h.next,h.push numsM):=by
 rw [call_run (cx:=cx) rfl Tryz.func107 ok107 nd107 rfl (lbe rfl) rfl rfl];simp -implicitDefEqProofs (disch:=omega) [makeMapD,mapUpdateD,findT,keyEq,isKeyT,TK.isKey,H.may,H.push,hm,eqI];simp only [H.set,H.mk.injEq,and_true]
 funext k
 by_cases e:k=h.next<;>simp [upd,e]
end Go.Proofs.YtaldobgfbkllfaaGreatDoor
