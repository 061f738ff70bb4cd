import Derived.Test.YtaldobgfbkllfaaGreatDoorVaiSm
import Derived.Test.YtaldobgfbkllfaaGreatDoorVaiE
import Derived.Test.YtaldobgfbkllfaaGreatDoorVaiSe
set_option linter.unusedSimpArgs false
set_option linter.unusedVariables false
set_option linter.unusedSectionVars false
namespace Go.Proofs.YtaldobgfbkllfaaGreatDoor
open Vai
variable [Gl]
set_option maxHeartbeats 0
set_option maxRecDepth 100000
theorem s65 (ps vs:T)(hc:ps.cells=[ps])(hc':vs.cells=[vs])(x:PT)(X Y:Int × Int × ByteArray)(hX:X.2.2.size≤1000000000)(hY:Y.2.2.size≤1000000000)
   (hA:∀ h,callD (cx.at 65) (call cx prim) 106 [.t (.agg [ps,vs]),.t (prP x)] h=some (.tup [.t (val3 X),.t (val3 Y),.t (iv 0)],h)) :
   ∃ h',call cx prim 65 [.t (.agg [ps,vs]),.t (prP x)] .empty=some (.tup [.t (val3 (twoV x.k X Y).1),.t (iv (twoV x.k X Y).2)],h'):=by
 unfold twoV;by_cases hk:K5 x.k
 · rw [if_pos hk]
   by_cases hT:X.1=3
   · rw [if_pos hT]
     by_cases hL:X.2.2.size+Y.2.2.size>64
     · rw [if_pos hL]; exact s65l ps vs hc hc' x _ _ _ _ _ _ hk hT hL hX hY hA
     · rw [if_neg hL]; exact s65t ps vs hc hc' x _ _ _ _ _ _ hk hT hL hA
   · rw [if_neg hT]
     by_cases hZ:Y.2.1=0∧(x.k=7∨x.k=8)
     · rw [if_pos hZ]; exact s65z ps vs hc hc' x _ _ _ _ _ _ hZ.2 hT hZ.1 hA
     · rw [if_neg hZ]
       have:=s65n ps vs hc hc' x _ _ _ _ _ _ hk hT (fun h h0=>hZ ⟨h0,h⟩) hA
       cases hB:(numV x.k X.2.1 Y.2.1).2<;>simpa [hB] using this
 · rw [if_neg hk]; exact s65c ps vs hc hc' x _ _ _ _ _ _ hk hA
theorem s60 (k:Int)(id:Nat)(h:H):call cx prim 60 [.t (iv k),.ptr id 0 0 1] h=some (.func (.func 61) [] [.ptr id 0 0 1,.ptr h.next 0 0 1],h.push (.row 3 1 [.t (iv k)])):=by
 rw [call_run (cx:=cx) rfl Tryz.func60 ok60 nd60 rfl (lbe rfl) rfl rfl];simp -implicitDefEqProofs (disch:=omega) []
theorem s61 (v:T)(m r:T)(ps vs:T)(hm:m = .agg [ps,vs])(k:Int)(rk rn e:Int)(rs:ByteArray)(id id2:Nat)(h:H)(hv:v.cells.length=3)(hmk:h.marks=[])
  (h1:h.objs id=some (.row 77 2 [.t m])) (h2:h.objs id2=some (.row 3 1 [.t (iv k)])) (hl1:id<h.next) (hl2:id2<h.next) (hc:ps.cells=[ps]) (hc':vs.cells=[vs])
  (hA:∀ h,callD (cx.at 61) (call cx prim) 35 [.t m,.t (iv k)] h=some (.tup [.t (vv rk rn rs),.t (iv e)],h)) :
  call cx prim 61 [.t v,.ptr id 0 0 1,.ptr id2 0 0 1] h=some (.tup [.t (vv rk rn rs),.t (iv e)],(h.push (.row 26 3 [.t v])).push (.row 26 3 [.t (vv rk rn rs)])):=by
 rw [call_run (cx:=cx) rfl Tryz.func61 ok61 nd61 rfl (lbe rfl) rfl rfl];subst hm;simp -implicitDefEqProofs (disch:=first|omega|simp [H.push,hmk]) [hA,h1,h2,hv,hmk,hc,hc',ne0 hl1,ne0 hl2,ne1 hl1,ne1 hl2,push_setA]
theorem k61 (v:T)(m:T)(ps vs:T)(hm:m = .agg [ps,vs])(k:Int)(rk rn e:Int)(rs:ByteArray)(id id2:Nat)(h:H)(hv:v.cells.length=3)(hmk:h.marks=[])
  (h1:h.objs id=some (.row 77 2 [.t m])) (h2:h.objs id2=some (.row 3 1 [.t (iv k)])) (hl1:id<h.next) (hl2:id2<h.next) (hc:ps.cells=[ps]) (hc':vs.cells=[vs])
  (hA:∀ h,callD (cx.at 61) (call cx prim) 35 [.t m,.t (iv k)] h=some (.tup [.t (vv rk rn rs),.t (iv e)],h)) :
  ∃ h',callD (cx.at 64) (call cx prim) 61 [.t v,.ptr id 0 0 1,.ptr id2 0 0 1] h=some (.tup [.t (vv rk rn rs),.t (iv e)],h')∧Keeps h h' :=
 ⟨_,keepT cb61 rfl (s61 v m (vv rk rn rs) ps vs hm k rk rn e rs id id2 h hv hmk h1 h2 hl1 hl2 hc hc' hA),(Keeps.push _ _).trans (Keeps.push _ _)⟩
theorem k62 (k n:Int)(s:ByteArray)(h:H)(hmk:h.marks=[]):∃ h',callD (cx.at 64) (call cx prim) 62 [.t (vv k n s)] h=some (.tup [.t (vv k n s),.t (iv 0)],h')∧Keeps h h':=by
 have:call cx prim 62 [.t (vv k n s)] h=some (.tup [.t (vv k n s),.t (iv 0)],(h.push (.row 26 3 [.t (vv k n s)])).push (.row 26 3 [.t (vv k n s)])):=by
  rw [call_run (cx:=cx) rfl Tryz.func62 ok62 nd62 rfl (lbe rfl) rfl rfl];simp -implicitDefEqProofs (disch:=first|omega|simp [H.push,hmk]) [hmk,push_setA]
 exact ⟨_,keepT cb62 rfl this,(Keeps.push _ _).trans (Keeps.push _ _)⟩
section
variable (ps vs:T)(hc:ps.cells=[ps])(hc':vs.cells=[vs])(a:Int)(fy fn:FuncId)(cy cn:List D)(h:H)(hmk:h.marks=[])
include hc hc' hmk
theorem s64e (xk xn e:Int)(xs:ByteArray)(he:e≠0)(hA:∀ h,callD (cx.at 64) (call cx prim) 35 [.t (.agg [ps,vs]),.t (iv a)] h=some (.tup [.t (vv xk xn xs),.t (iv e)],h)) :
  ∃ h',call cx prim 64 [.t (.agg [ps,vs]),.t (iv a),.func (.func fy) [] cy,.func (.func fn) [] cn] h=some (.tup [.t (vv 0 0 ⟨#[]⟩),.t (iv e)],h')∧Keeps h h':=by
 rw [call_run (cx:=cx) rfl Tryz.func64 ok64 nd64 rfl (lbe rfl) rfl rfl];simp -implicitDefEqProofs (disch:=first|omega|simp [H.push,hmk]) [hA,he,eqI,hmk,hc,hc',push_setA]
 exact ((((Keeps.push _ _).trans (Keeps.push _ _)).trans (Keeps.push _ _)).set (by omega)).set (by omega)
theorem s64 (xk xn:Int)(xs:ByteArray)(hA:∀ h,callD (cx.at 64) (call cx prim) 35 [.t (.agg [ps,vs]),.t (iv a)] h=some (.tup [.t (vv xk xn xs),.t (iv 0)],h))(r:Int × Int × ByteArray)(e:Int)
   (hyes:xn=1→∀ h',Keeps h h'→∃ h2,callD (cx.at 64) (call cx prim) fy (.t (vv xk xn xs)::cy) h'=some (.tup [.t (val3 r),.t (iv e)],h2)∧Keeps h' h2)
   (hno:xn≠1→∀ h',Keeps h h'→∃ h2,callD (cx.at 64) (call cx prim) fn (.t (vv xk xn xs)::cn) h'=some (.tup [.t (val3 r),.t (iv e)],h2)∧Keeps h' h2) :
   ∃ h',call cx prim 64 [.t (.agg [ps,vs]),.t (iv a),.func (.func fy) [] cy,.func (.func fn) [] cn] h=some (.tup [.t (val3 r),.t (iv e)],h')∧Keeps h h':=by
 rw [call_run (cx:=cx) rfl Tryz.func64 ok64 nd64 rfl (lbe rfl) rfl rfl];have K:Keeps h (((h.push (.row 77 2 [.t (.agg [ps,vs])])).push (.row 26 3 [.t (vv 0 0 ⟨#[]⟩)])).push (.row 26 3 [.t (vv xk xn xs)])):=((Keeps.push _ _).trans (Keeps.push _ _)).trans (Keeps.push _ _);by_cases hn:xn=1
 · obtain ⟨h2,q,hk⟩:=hyes hn _ K
   have o1:=hk.obj (id:=h.next+1) (o:=.row 26 3 [.t (vv 0 0 ⟨#[]⟩)]) (by simp [H.push,upd]) (by simp [H.push])
   subst hn;simp -implicitDefEqProofs (disch:=first|omega|simp [H.push,hmk]) [hA,q,eqI,hmk,hc,hc',push_setA,push_setB,o1]
   exact (K.trans hk).set (by omega)
 · obtain ⟨h2,q,hk⟩:=hno hn _ K
   have o1:=hk.obj (id:=h.next+1) (o:=.row 26 3 [.t (vv 0 0 ⟨#[]⟩)]) (by simp [H.push,upd]) (by simp [H.push])
   simp -implicitDefEqProofs (disch:=first|omega|simp [H.push,hmk]) [hA,q,eqI,hn,hmk,hc,hc',push_setA,push_setB,o1]
   exact (K.trans hk).set (by omega)
end
theorem k60 (k:Int)(id:Nat)(h:H):callD (cx.at 35) (call cx prim) 60 [.t (iv k),.ptr id 0 0 1] h=some (.func (.func 61) [] [.ptr id 0 0 1,.ptr h.next 0 0 1],h.push (.row 3 1 [.t (iv k)])) :=
 keepT cb60 rfl (s60 k id h)
section
variable (ps:List PT)(vs:T)(hc':vs.cells=[vs])(i:Nat)(x:PT)(hx:ps[i]?=some x)
include hc' hx
theorem s35o (hk:x.k=3∨x.k=4∨x.k=5)(r:Int × Int × ByteArray)(e:Int)
  (hO:∀ h,callD (cx.at 35) (call cx prim) 63 [.t (mch ps vs),.t (prP x)] h=some (.tup [.t (val3 r),.t (iv e)],h)) :
  ∃ h',call cx prim 35 [.t (mch ps vs),.t (iv i)] .empty=some (.tup [.t (val3 r),.t (iv e)],h'):=by
 rw [call_run (cx:=cx) rfl Tryz.func35 ok35 nd35 rfl (lbe rfl) rfl rfl];have hg:(ps.map prP)[i]?=some (prP x):=by rw [List.getElem?_map,hx]; rfl
 obtain ⟨k,a,b,c,vk,vn,s,nm,at_⟩:=x;simp only at hk;rcases hk with rfl|rfl|rfl <;>
 simp -implicitDefEqProofs (disch:=omega) [-List.getElem?_map,hg,hO,hc']
theorem s35t (hk:6≤x.k∧x.k≤16)(r:Int × Int × ByteArray)(e:Int)
  (hO:∀ h,callD (cx.at 35) (call cx prim) 65 [.t (mch ps vs),.t (prP x)] h=some (.tup [.t (val3 r),.t (iv e)],h)) :
  ∃ h',call cx prim 35 [.t (mch ps vs),.t (iv i)] .empty=some (.tup [.t (val3 r),.t (iv e)],h'):=by
 rw [call_run (cx:=cx) rfl Tryz.func35 ok35 nd35 rfl (lbe rfl) rfl rfl];have hg:(ps.map prP)[i]?=some (prP x):=by rw [List.getElem?_map,hx]; rfl
 simp -implicitDefEqProofs (disch:=omega) [-List.getElem?_map,hg,hO,hc']
theorem s35a (hk:x.k=17)(r:Int × Int × ByteArray)(e:Int)
  (hO:∀ h,h.marks=[]→h.objs 0=some (.row 77 2 [.t (mch ps vs)])→h.objs 3=some (.row 3 1 [.t (iv x.b)])→h.next=4→∃ h',callD (cx.at 35) (call cx prim) 64 [.t (mch ps vs),.t (iv x.a),.func (.func 61) [] [.ptr 0 0 0 1,.ptr 3 0 0 1],.func (.func 62) [] []] h=some (.tup [.t (val3 r),.t (iv e)],h')∧Keeps h h') :
  ∃ h',call cx prim 35 [.t (mch ps vs),.t (iv i)] .empty=some (.tup [.t (val3 r),.t (iv e)],h'):=by
 rw [call_run (cx:=cx) rfl Tryz.func35 ok35 nd35 rfl (lbe rfl) rfl rfl];have hg:(ps.map prP)[i]?=some (prP x):=by rw [List.getElem?_map,hx]; rfl
 obtain ⟨k,a,b,c,vk,vn,s,nm,at_⟩:=x;simp only at hk;subst hk;obtain ⟨h2,q,kp⟩:=hO ((((H.empty.push (.row 77 2 [.t (mch ps vs)])).push (.row 26 3 [.t (vv 0 0 ⟨#[]⟩)])).push (.row 57 9 [.t (prt 17 a b c vk vn s nm at_)])).push (.row 3 1 [.t (iv b)])) rfl rfl rfl rfl;have o1:=kp.obj (id:=1) (o:=.row 26 3 [.t (vv 0 0 ⟨#[]⟩)]) rfl (by simp [H.push,H.empty])
 have o2:=kp.obj (id:=0) (o:=.row 77 2 [.t (mch ps vs)]) rfl (by simp [H.push,H.empty])
 have o3:=kp.obj (id:=2) (o:=.row 57 9 [.t (prt 17 a b c vk vn s nm at_)]) rfl (by simp [H.push,H.empty])
 simp -implicitDefEqProofs (disch:=omega) [-List.getElem?_map,hg,q,hc',k60,md,o1,o2,o3]
theorem s35r (hk:x.k=18)(r:Int × Int × ByteArray)(e:Int)
  (hO:∀ h,h.marks=[]→h.objs 0=some (.row 77 2 [.t (mch ps vs)])→h.objs 3=some (.row 3 1 [.t (iv x.b)])→h.next=4→∃ h',callD (cx.at 35) (call cx prim) 64 [.t (mch ps vs),.t (iv x.a),.func (.func 62) [] [],.func (.func 61) [] [.ptr 0 0 0 1,.ptr 3 0 0 1]] h=some (.tup [.t (val3 r),.t (iv e)],h')∧Keeps h h') :
  ∃ h',call cx prim 35 [.t (mch ps vs),.t (iv i)] .empty=some (.tup [.t (val3 r),.t (iv e)],h'):=by
 rw [call_run (cx:=cx) rfl Tryz.func35 ok35 nd35 rfl (lbe rfl) rfl rfl];have hg:(ps.map prP)[i]?=some (prP x):=by rw [List.getElem?_map,hx]; rfl
 obtain ⟨k,a,b,c,vk,vn,s,nm,at_⟩:=x;simp only at hk;subst hk;obtain ⟨h2,q,kp⟩:=hO ((((H.empty.push (.row 77 2 [.t (mch ps vs)])).push (.row 26 3 [.t (vv 0 0 ⟨#[]⟩)])).push (.row 57 9 [.t (prt 18 a b c vk vn s nm at_)])).push (.row 3 1 [.t (iv b)])) rfl rfl rfl rfl;have o1:=kp.obj (id:=1) (o:=.row 26 3 [.t (vv 0 0 ⟨#[]⟩)]) rfl (by simp [H.push,H.empty])
 have o2:=kp.obj (id:=0) (o:=.row 77 2 [.t (mch ps vs)]) rfl (by simp [H.push,H.empty])
 have o3:=kp.obj (id:=2) (o:=.row 57 9 [.t (prt 18 a b c vk vn s nm at_)]) rfl (by simp [H.push,H.empty])
 simp -implicitDefEqProofs (disch:=omega) [-List.getElem?_map,hg,q,hc',k60,md,o1,o2,o3]
theorem s35i (hk:x.k=19)(r:Int × Int × ByteArray)(e:Int)
  (hO:∀ h,h.marks=[]→h.objs 0=some (.row 77 2 [.t (mch ps vs)])→h.objs 3=some (.row 3 1 [.t (iv x.b)])→h.objs 4=some (.row 3 1 [.t (iv x.c)])→h.next=5→∃ h',callD (cx.at 35) (call cx prim) 64 [.t (mch ps vs),.t (iv x.a),.func (.func 61) [] [.ptr 0 0 0 1,.ptr 3 0 0 1],.func (.func 61) [] [.ptr 0 0 0 1,.ptr 4 0 0 1]] h=some (.tup [.t (val3 r),.t (iv e)],h')∧Keeps h h') :
  ∃ h',call cx prim 35 [.t (mch ps vs),.t (iv i)] .empty=some (.tup [.t (val3 r),.t (iv e)],h'):=by
 rw [call_run (cx:=cx) rfl Tryz.func35 ok35 nd35 rfl (lbe rfl) rfl rfl];have hg:(ps.map prP)[i]?=some (prP x):=by rw [List.getElem?_map,hx]; rfl
 obtain ⟨k,a,b,c,vk,vn,s,nm,at_⟩:=x;simp only at hk;subst hk;obtain ⟨h2,q,kp⟩:=hO (((((H.empty.push (.row 77 2 [.t (mch ps vs)])).push (.row 26 3 [.t (vv 0 0 ⟨#[]⟩)])).push (.row 57 9 [.t (prt 19 a b c vk vn s nm at_)])).push (.row 3 1 [.t (iv b)])).push (.row 3 1 [.t (iv c)])) rfl rfl rfl rfl rfl;have o1:=kp.obj (id:=1) (o:=.row 26 3 [.t (vv 0 0 ⟨#[]⟩)]) rfl (by simp [H.push,H.empty])
 have o2:=kp.obj (id:=0) (o:=.row 77 2 [.t (mch ps vs)]) rfl (by simp [H.push,H.empty])
 have o3:=kp.obj (id:=2) (o:=.row 57 9 [.t (prt 19 a b c vk vn s nm at_)]) rfl (by simp [H.push,H.empty])
 simp -implicitDefEqProofs (disch:=omega) [-List.getElem?_map,hg,q,hc',k60,md,o1,o2,o3]
end
abbrev V3:=Int × Int × ByteArray
abbrev z3:V3:=(0,0,⟨#[]⟩)
abbrev partV (x:PT):V3:=(x.vk,x.vn,x.s)
def getV (vl:List WV)(nm:ByteArray):V3:=match getW vl nm with|some v=>(v.2.1,v.2.2.1,v.2.2.2)|none=>z3
theorem getT_V (vl:List WV)(nm:ByteArray):getT vl nm=val3 (getV vl nm):=by
 unfold getT getV;cases getW vl nm<;>rfl
def evB (r:Int→V3 × Int)(vl:List WV)(x:PT):V3 × Int :=
 if x.k=1 then (partV x,0)
 else if x.k=2 then (getV vl x.nm,0)
 else if (r x.a).2≠0 then (z3,(r x.a).2)
 else if x.k=3∨x.k=4∨x.k=5 then oneV x.k (r x.a).1.2.1 (r x.a).1.2.2
 else if x.k=17 then (if (r x.a).1.2.1=1 then r x.b else ((r x.a).1,0))
 else if x.k=18 then (if (r x.a).1.2.1=1 then ((r x.a).1,0) else r x.b)
 else if x.k=19 then (if (r x.a).1.2.1=1 then r x.b else r x.c)
 else if (r x.b).2≠0 then (z3,(r x.b).2)
 else twoV x.k (r x.a).1 (r x.b).1
def evF (ps:List PT)(vl:List WV):Nat→Int→V3 × Int
 | 0,_=>(z3,0)
 | f+1,i=>match ps[i.toNat]? with
  | none=>(z3,0)
  | some x=>evB (evF ps vl f) vl x
theorem evF_at {ps:List PT}{vl:List WV}{f i:Nat}{x:PT}(hx:ps[i]?=some x):evF ps vl (f+1) i=evB (evF ps vl f) vl x:=by
 simp only [evF,Int.toNat_natCast,hx]
theorem esz:(⟨#[]⟩:ByteArray).size≤1000000000:=by decide
def Sides (ps:List PT):Prop:=∀ (i:Nat) (x:PT),ps[i]?=some x→1≤x.k∧x.k≤19∧(3≤x.k→0≤x.a∧x.a<i)∧(6≤x.k→0≤x.b∧x.b<i)∧(x.k=19→0≤x.c∧x.c<i)
def OKV (v:V3):Prop:=-9223372036854775808≤v.2.1∧v.2.1≤9223372036854775807∧v.2.2.size≤1000000000
theorem okz:OKV z3:=⟨by decide,by decide,by decide⟩
theorem wrap_range (n:Int) : -9223372036854775808≤IntKind.i64.wrap n∧IntKind.i64.wrap n≤9223372036854775807:=by
 have e:(2:Int) ^ (64:Nat)=18446744073709551616:=by decide
 have e':(2:Int) ^ (64-1:Nat)=9223372036854775808:=by decide
 simp only [IntKind.wrap,IntKind.bits,IntKind.signed,Bool.true_and,decide_eq_true_eq,e,e'];split<;>omega
theorem tmod_range {a b:Int}(ha : -9223372036854775808≤a)(hb:a≤9223372036854775807) : -9223372036854775808≤a.tmod b∧a.tmod b≤9223372036854775807:=by
 have h1:(a.tmod b).natAbs≤a.natAbs:=by rw [Int.natAbs_tmod]; exact Nat.mod_le _ _
 rcases Int.le_total 0 a with h|h
 · have:=Int.tmod_nonneg b h; omega
 · have h2:a.tmod b≤0:=by
    have:=Int.tmod_nonneg (a:=-a) b (by omega)
    rw [Int.neg_tmod] at this; omega
   omega
theorem oneV_ok {k xn:Int}{xs:ByteArray}(h:OKV (0,xn,xs)):OKV (oneV k xn xs).1:=by
 obtain ⟨h1,h2,h3⟩:=h;simp only at h1 h2 h3;unfold oneV;split
 · refine ⟨?_,?_,esz⟩<;>simp only<;>split<;>decide
 · split
   · refine ⟨?_,?_,esz⟩<;>simp only<;>omega
   · split
     · exact okz
     · refine ⟨?_,?_,esz⟩<;>simp only<;>omega
theorem mulV_range (a b:Int) : -9223372036854775808≤(mulV a b).1∧(mulV a b).1≤9223372036854775807:=by
 unfold mulV; split
 · decide
 · exact wrap_range _
theorem numV_ok (k:Int){x y:Int}(h1 : -9223372036854775808≤x)(h2:x≤9223372036854775807) : -9223372036854775808≤(numV k x y).1∧(numV k x y).1≤9223372036854775807:=by
 unfold numV;split
 · exact wrap_range _
 · split
   · exact wrap_range _
   · split
     · exact mulV_range _ _
     · split
       · exact wrap_range _
       · exact tmod_range h1 h2
theorem twoV_ok {k:Int}{X Y:V3}(hX:OKV X):OKV (twoV k X Y).1:=by
 unfold twoV;split
 · split
   · split
     · exact okz
     · rename_i h
       refine ⟨by show (_:Int)≤0; decide,by show (0:Int)≤_; decide,?_⟩
       simp only [ByteArray.size_append]; omega
   · split
     · exact okz
     · split
       · have:=numV_ok k (y:=Y.2.1) hX.1 hX.2.1
         exact ⟨this.1,this.2,esz⟩
       · exact okz
 · refine ⟨?_,?_,esz⟩<;>simp only<;>split<;>decide
def PartsOK (ps:List PT)(vl:List WV):Prop:=(∀ x∈ps,OKV (partV x))∧∀ nm,OKV (getV vl nm)
theorem evF_ok {ps:List PT}{vl:List WV}(hp:PartsOK ps vl):∀ (f:Nat) (i:Int),OKV (evF ps vl f i).1
 | 0,_=>okz
 | f+1,i=>by
  unfold evF;split
  · exact okz
  · rename_i x hx
    have ih:=evF_ok hp f;unfold evB;split
    · exact hp.1 x (List.mem_of_getElem? hx)
    · split
      · exact hp.2 _
      · split
        · exact okz
        · split
          · exact oneV_ok (k:=x.k) ⟨(ih x.a).1,(ih x.a).2.1,(ih x.a).2.2⟩
          · split
            · split
              · exact ih _
              · exact ih _
            · split
              · split
                · exact ih _
                · exact ih _
              · split
                · split
                  · exact ih _
                  · exact ih _
                · split
                  · exact okz
                  · exact twoV_ok (ih _)
theorem c35 {c:FuncId}{ps:List PT}{vs:T}{i:Int}{v:V3}{e:Int}(hm:md c 35 = .pure)(hq:∃ h',call cx prim 35 [.t (mch ps vs),.t (iv i)] .empty=some (.tup [.t (val3 v),.t (iv e)],h'))(h:H) :
  callD (cx.at c) (call cx prim) 35 [.t (mch ps vs),.t (iv i)] h=some (.tup [.t (val3 v),.t (iv e)],h):=by
 obtain ⟨h',q⟩:=hq;exact pureT cb35 hm q rfl rfl
theorem toNat_cast {i:Int}(h:0≤i):((i.toNat:Nat):Int)=i:=by omega
theorem of_ok {ps:List PT}{vs:T}{vl:List WV}(hv:Slice vs (vl.map varW))(hl:vl.length≤2000000)(hp:PartsOK ps vl)(hs:Sides ps):∀ (f i:Nat),i<f→i<ps.length →
  ∃ h',call cx prim 35 [.t (mch ps vs),.t (iv i)] .empty=some (.tup [.t (val3 (evF ps vl f i).1),.t (iv (evF ps vl f i).2)],h')
 | 0,i,h,_=>absurd h (Nat.not_lt_zero _)
 | f+1,i,hi,hlt=>by
  obtain ⟨x,hx⟩:∃ x,ps[i]?=some x:=⟨ps[i],by simp [hlt]⟩
  have hc':vs.cells=[vs]:=hv.cells1;have hc:(T.slice (ps.map prP)).cells=[T.slice (ps.map prP)]:=rfl;obtain ⟨k1,k19,ha,hb,hcc⟩:=hs i x hx;have side:∀ j:Int,0≤j→j<i→∃ h',call cx prim 35 [.t (mch ps vs),.t (iv j)] .empty=some (.tup [.t (val3 (evF ps vl f j).1),.t (iv (evF ps vl f j).2)],h'):=fun j h0 hj=>by
    have:=of_ok hv hl hp hs f j.toNat (by omega) (by omega)
    rw [toNat_cast h0] at this;exact this
  rw [evF_at hx];unfold evB;by_cases e1:x.k=1
  · rw [if_pos e1]
    exact s35v ps vs i x hx e1
  rw [if_neg e1];by_cases e2:x.k=2
  · rw [if_pos e2]
    have:=s35n ps vs vl hv hl i x hx e2;rw [getT_V] at this;exact this
  rw [if_neg e2];obtain ⟨ha0,hai⟩:=ha (by omega)
  have hA:=side x.a ha0 hai;have okA:=evF_ok hp f x.a;generalize evF ps vl f x.a=A at hA okA ⊢;obtain ⟨A,eA⟩:=A;simp only at hA okA ⊢;by_cases e3:x.k=3∨x.k=4∨x.k=5
  · by_cases hE:eA≠0
    · rw [if_pos hE]
      obtain ⟨h',q⟩:=s63e (mch ps vs) x A.1 A.2.1 eA A.2.2 hE (fun h=>c35 (c:=63) rfl hA h) _ vs rfl hc hc'
      exact s35o ps vs hc' i x hx e3 z3 eA fun h=>pureT cb63 rfl q rfl rfl
    · rw [if_neg hE,if_pos e3]
      obtain rfl:eA=0:=by omega
      obtain ⟨h',q⟩:=s63 (mch ps vs) x A.1 A.2.1 A.2.2 e3 okA.1 okA.2.1 (Nat.le_trans okA.2.2 (by decide)) (fun h=>c35 (c:=63) rfl hA h) _ vs rfl hc hc'
      exact s35o ps vs hc' i x hx e3 _ _ fun h=>pureT cb63 rfl q rfl rfl
  obtain ⟨hb0,hbi⟩:=hb (by omega)
  have hB:=side x.b hb0 hbi;have okB:=evF_ok hp f x.b;generalize evF ps vl f x.b=B at hB okB ⊢;obtain ⟨B,eB⟩:=B;simp only at hB okB ⊢;rw [if_neg e3];by_cases e17:x.k=17
  · refine s35a ps vs hc' i x hx e17 _ _ fun h hmk o0 o3 hn=>?_
    by_cases hE:eA≠0
    · rw [if_pos hE]
      obtain ⟨h',q,kp⟩:=s64e (.slice (ps.map prP)) vs hc hc' x.a 61 62 [.ptr 0 0 0 1,.ptr 3 0 0 1] [] h hmk A.1 A.2.1 eA A.2.2 hE (fun h=>c35 (c:=64) rfl hA h)
      exact ⟨h',keepT cb64 rfl q,kp⟩
    · rw [if_neg hE,if_pos e17]
      obtain rfl:eA=0:=by omega
      obtain ⟨h',q,kp⟩:=s64 (.slice (ps.map prP)) vs hc hc' x.a 61 62 [.ptr 0 0 0 1,.ptr 3 0 0 1] [] h hmk A.1 A.2.1 A.2.2 (fun h=>c35 (c:=64) rfl hA h) (if A.2.1=1 then (B,eB) else (A,0)).1 (if A.2.1=1 then (B,eB) else (A,0)).2
       (fun h1 h' kp=>by
        rw [if_pos h1];exact k61 _ (mch ps vs) _ vs rfl x.b B.1 B.2.1 eB B.2.2 0 3 h' rfl (kp.2.1.trans hmk) (kp.obj o0 (by omega)) (kp.obj o3 (by omega)) (by have:=kp.1; omega) (by have:=kp.1; omega) hc hc' (fun h=>c35 (c:=61) rfl hB h))
       (fun h1 h' kp=>by
        rw [if_neg h1];exact k62 _ _ _ h' (kp.2.1.trans hmk))
      exact ⟨h',keepT cb64 rfl q,kp⟩
  rw [if_neg e17];by_cases e18:x.k=18
  · refine s35r ps vs hc' i x hx e18 _ _ fun h hmk o0 o3 hn=>?_
    by_cases hE:eA≠0
    · rw [if_pos hE]
      obtain ⟨h',q,kp⟩:=s64e (.slice (ps.map prP)) vs hc hc' x.a 62 61 [] [.ptr 0 0 0 1,.ptr 3 0 0 1] h hmk A.1 A.2.1 eA A.2.2 hE (fun h=>c35 (c:=64) rfl hA h)
      exact ⟨h',keepT cb64 rfl q,kp⟩
    · rw [if_neg hE,if_pos e18]
      obtain rfl:eA=0:=by omega
      obtain ⟨h',q,kp⟩:=s64 (.slice (ps.map prP)) vs hc hc' x.a 62 61 [] [.ptr 0 0 0 1,.ptr 3 0 0 1] h hmk A.1 A.2.1 A.2.2 (fun h=>c35 (c:=64) rfl hA h) (if A.2.1=1 then (A,0) else (B,eB)).1 (if A.2.1=1 then (A,0) else (B,eB)).2
       (fun h1 h' kp=>by
        rw [if_pos h1];exact k62 _ _ _ h' (kp.2.1.trans hmk))
       (fun h1 h' kp=>by
        rw [if_neg h1];exact k61 _ (mch ps vs) _ vs rfl x.b B.1 B.2.1 eB B.2.2 0 3 h' rfl (kp.2.1.trans hmk) (kp.obj o0 (by omega)) (kp.obj o3 (by omega)) (by have:=kp.1; omega) (by have:=kp.1; omega) hc hc' (fun h=>c35 (c:=61) rfl hB h))
      exact ⟨h',keepT cb64 rfl q,kp⟩
  rw [if_neg e18];by_cases e19:x.k=19
  · obtain ⟨hc0,hci⟩:=hcc e19
    have hC:=side x.c hc0 hci;generalize evF ps vl f x.c=C at hC ⊢;obtain ⟨C,eC⟩:=C;simp only at hC ⊢;refine s35i ps vs hc' i x hx e19 _ _ fun h hmk o0 o3 o4 hn=>?_
    by_cases hE:eA≠0
    · rw [if_pos hE]
      obtain ⟨h',q,kp⟩:=s64e (.slice (ps.map prP)) vs hc hc' x.a 61 61 [.ptr 0 0 0 1,.ptr 3 0 0 1] [.ptr 0 0 0 1,.ptr 4 0 0 1] h hmk A.1 A.2.1 eA A.2.2 hE (fun h=>c35 (c:=64) rfl hA h)
      exact ⟨h',keepT cb64 rfl q,kp⟩
    · rw [if_neg hE,if_pos e19]
      obtain rfl:eA=0:=by omega
      obtain ⟨h',q,kp⟩:=s64 (.slice (ps.map prP)) vs hc hc' x.a 61 61 [.ptr 0 0 0 1,.ptr 3 0 0 1] [.ptr 0 0 0 1,.ptr 4 0 0 1] h hmk A.1 A.2.1 A.2.2 (fun h=>c35 (c:=64) rfl hA h) (if A.2.1=1 then (B,eB) else (C,eC)).1 (if A.2.1=1 then (B,eB) else (C,eC)).2
       (fun h1 h' kp=>by
        rw [if_pos h1];exact k61 _ (mch ps vs) _ vs rfl x.b B.1 B.2.1 eB B.2.2 0 3 h' rfl (kp.2.1.trans hmk) (kp.obj o0 (by omega)) (kp.obj o3 (by omega)) (by have:=kp.1; omega) (by have:=kp.1; omega) hc hc' (fun h=>c35 (c:=61) rfl hB h))
       (fun h1 h' kp=>by
        rw [if_neg h1];exact k61 _ (mch ps vs) _ vs rfl x.c C.1 C.2.1 eC C.2.2 0 4 h' rfl (kp.2.1.trans hmk) (kp.obj o0 (by omega)) (kp.obj o4 (by omega)) (by have:=kp.1; omega) (by have:=kp.1; omega) hc hc' (fun h=>c35 (c:=61) rfl hC h))
      exact ⟨h',keepT cb64 rfl q,kp⟩
  rw [if_neg e19];have hk:6≤x.k∧x.k≤16:=by omega
  by_cases hE:eA≠0
  · rw [if_pos hE]
    obtain ⟨h1,q1⟩:=s106e (.slice (ps.map prP)) vs x.k x.a x.b x.c x.vk x.vn x.at_ x.s x.nm A.1 A.2.1 eA A.2.2 hE (fun h=>c35 (c:=106) rfl hA h)
    obtain ⟨h',q⟩:=s65e (.slice (ps.map prP)) vs hc hc' x A.1 A.2.1 0 0 A.2.2 ⟨#[]⟩ eA hE (fun h=>pureT cb106 rfl q1 rfl rfl)
    exact s35t ps vs hc' i x hx hk z3 eA fun h=>pureT cb65 rfl q rfl rfl
  · rw [if_neg hE]
    obtain rfl:eA=0:=by omega
    obtain ⟨h1,q1⟩:=s106 (.slice (ps.map prP)) vs x.k x.a x.b x.c x.vk x.vn x.at_ x.s x.nm A.1 A.2.1 A.2.2 B.1 B.2.1 eB B.2.2 (fun h=>c35 (c:=106) rfl hA h) (fun h=>c35 (c:=106) rfl hB h)
    by_cases hE2:eB≠0
    · rw [if_pos hE2]
      obtain ⟨h',q⟩:=s65e (.slice (ps.map prP)) vs hc hc' x A.1 A.2.1 B.1 B.2.1 A.2.2 B.2.2 eB hE2 (fun h=>pureT cb106 rfl q1 rfl rfl)
      exact s35t ps vs hc' i x hx hk z3 eB fun h=>pureT cb65 rfl q rfl rfl
    · rw [if_neg hE2]
      obtain rfl:eB=0:=by omega
      obtain ⟨h',q⟩:=s65 (.slice (ps.map prP)) vs hc hc' x A B okA.2.2 okB.2.2 (fun h=>pureT cb106 rfl q1 rfl rfl)
      exact s35t ps vs hc' i x hx hk _ _ fun h=>pureT cb65 rfl q rfl rfl
abbrev DV:=ByteArray × Int
abbrev decT (d:DV):T:=.agg [.str d.1,.int .i64 d.2]
abbrev dcl (v:WV):DV:=(v.1,v.2.1)
abbrev dcT (v:WV):T:=decT (dcl v)
def WfH (h:H):Prop:=∀ id o,h.objs id=some o→id<h.next
theorem WfH.push {h:H}(hw:WfH h)(o:AObj):WfH (h.push o):=fun id p hp=>by
 simp only [H.push,upd] at hp ⊢;split at hp
 · omega
 · have:=hw id p hp; omega
theorem take_succ_map {α β:Type}{l:List α}{k:Nat}{a:α}(f:α→β)(h:l[k]?=some a):(l.take (k+1)).map f=(l.take k).map f ++ [f a]:=by
 rw [List.take_add_one,h]; simp
theorem app17 {h:H}{d:D}{vs:List WV}{k:Nat}{v:WV}(hv:vs[k]?=some v)(hl:vs.length≤2000000)(hb:TBuf h 35 2 d ((vs.take k).map dcT))(hlt:WfH h) :
  ∃ d' h',appendD Tryz.prog h 32 d (.t (.slice [dcT v]))=some (d',h')∧TBuf h' 35 2 d' ((vs.take (k+1)).map dcT)∧WfH h':=by
 rw [take_succ_map dcT hv];obtain ⟨a',h',h1,h2,_,h3⟩:=TBuf.append (P:=Tryz.prog) (t:=32) (x:=.t (.slice [dcT v])) (ys:=[dcT v]) hb tk32 sz35 byt35 zero35 rfl (by decide) rfl (by simp) (by simp; omega) (by simp; omega) hlt
 exact ⟨a',h',h1,h2,h3⟩
theorem TBuf.push {h:H}{e:TypeId}{s:Nat}{d:D}{xs:List T}{o:AObj}(hb:TBuf h e s d xs):TBuf (h.push o) e s d xs:=by
 rcases hb with h1|⟨id,h1,h2,h3⟩
 · exact .inl h1
 · exact .inr ⟨id,h1,by simp only [H.push,upd]; rw [if_neg (by omega)]; exact h2,by simp only [H.push]; omega⟩
theorem s17 {x:T}{vs:List WV}(hx:Slice x (vs.map varW))(hl:vs.length≤2000000):Ret (call cx prim 17 [.t x] .empty) fun d h'=>TBuf h' 35 2 d (vs.map dcT):=by
 rw [call_run (cx:=cx) rfl Tryz.func17 ok17 nd17 rfl (lbe rfl) rfl rfl];have hlx:=fun hh=>hx.len (P:=Tryz.prog) (t:=23) tk23 hh
 rw [List.length_map] at hlx;simp -implicitDefEqProofs (disch:=omega) [hlx];generalize hLp:loopω _ _=L;obtain ⟨x',⟨nn,env,h2⟩,rfl,rfl,hq,hd⟩:=loop_uses hLp vs.length
  (fun k st=>st.n=23∧st.env 6 = .t x∧st.env 7 = .t (.int .i64 vs.length)∧st.env 8 = .t (.int .i64 k)∧TBuf st.h 35 2 (st.env 3) ((vs.take k).map dcT)∧WfH st.h)
  (fun x' st=>st.n=23∧x' = .exit 0∧TBuf st.h 35 2 (st.env 3) (vs.map dcT))
  (by refine ⟨rfl,?_⟩; simp; exact ⟨.nil,noObj⟩) (by
  rintro k ⟨nn,env,h2⟩ hk ⟨rfl,e6,e7,e8,hb,hw⟩;simp only at e6 e7 e8 hb hw;rw [LB_run nd17 rfl];by_cases hk':k<vs.length
  · obtain ⟨v,hv⟩:∃ v,vs[k]?=some v:=⟨vs[k],by simp [hk']⟩
    have hxe:x = .slice (vs.map varW):=hx.eq_of_ne (by intro e; have:=congrArg List.length e; simp at this; subst this; simp at hk')
    subst hxe;have hg:(vs.map varW)[k]?=some (varW v):=by rw [List.getElem?_map,hv]; rfl
    have c1:(k:Int)<vs.length:=by omega
    generalize hD:env 3=d at hb;obtain ⟨d',h',q,hb',hw'⟩:=app17 hv hl (TBuf.push (o:=.row 38 4 [.t (varW v)]) hb) (hw.push _);simp -implicitDefEqProofs (disch:=omega) [-List.getElem?_map,e6,e7,e8,hg,hD,litSliceD,push_set,q,Wp_some];exact ⟨hk',by rw [←List.map_take]; exact hb',hw'⟩
  · obtain rfl:k=vs.length:=by omega
    rw [List.take_length] at hb;simp -implicitDefEqProofs (disch:=omega) [e6,e7,e8,Wp_some];exact hb)
 simp only at hq hd;subst hq;simp -implicitDefEqProofs (disch:=omega) [];exact hd
theorem s18 {x:T}{vs:List WV}(hx:Slice x (vs.map varW))(hl:vs.length≤2000000):Ret (call cx prim 18 [.t x] .empty) fun d h'=>TBuf h' 35 2 d (vs.map dcT):=by
 rw [call_run (cx:=cx) rfl Tryz.func18 ok18 nd18 rfl (lbe rfl) rfl rfl];have hlx:=fun hh=>hx.len (P:=Tryz.prog) (t:=23) tk23 hh
 rw [List.length_map] at hlx;simp -implicitDefEqProofs (disch:=omega) [hlx];generalize hLp:loopω _ _=L;obtain ⟨x',⟨nn,env,h2⟩,rfl,rfl,hq,hd⟩:=loop_uses hLp vs.length
  (fun k st=>st.n=27∧st.env 0 = .t x∧st.env 4 = .t (.int .i64 k)∧TBuf st.h 35 2 (st.env 3) ((vs.take k).map dcT)∧WfH st.h)
  (fun x' st=>st.n=27∧x' = .exit 0∧TBuf st.h 35 2 (st.env 3) (vs.map dcT))
  (by refine ⟨rfl,?_⟩; simp; exact ⟨.nil,noObj⟩) (by
  rintro k ⟨nn,env,h2⟩ hk ⟨rfl,e0,e4,hb,hw⟩;simp only at e0 e4 hb hw;rw [LB_run nd18 rfl];by_cases hk':k<vs.length
  · obtain ⟨v,hv⟩:∃ v,vs[k]?=some v:=⟨vs[k],by simp [hk']⟩
    have hxe:x = .slice (vs.map varW):=hx.eq_of_ne (by intro e; have:=congrArg List.length e; simp at this; subst this; simp at hk')
    subst hxe;have hg:(vs.map varW)[k]?=some (varW v):=by rw [List.getElem?_map,hv]; rfl
    have c1:(k:Int)<vs.length:=by omega
    generalize hD:env 3=d at hb;obtain ⟨d',h',q,hb',hw'⟩:=app17 hv hl hb hw;simp -implicitDefEqProofs (disch:=omega) [-List.getElem?_map,e0,e4,hg,hD,hlx,litSliceD,q,md,Wp_some];exact ⟨hk',by rw [←List.map_take]; exact hb',hw'⟩
  · obtain rfl:k=vs.length:=by omega
    rw [List.take_length] at hb;simp -implicitDefEqProofs (disch:=omega) [e0,e4,hlx,Wp_some];exact hb)
 simp only at hq hd;subst hq;simp -implicitDefEqProofs (disch:=omega) [];exact hd
theorem c17 {x:T}{vs:List WV}(hx:Slice x (vs.map varW))(hl:vs.length≤2000000):∃ y,Slice y (vs.map dcT)∧∀ (c:FuncId) (h:H),md c 17 = .pure→callD (cx.at c) (call cx prim) 17 [.t x] h=some (.t y,h):=by
 obtain ⟨d,h',q,hb⟩:=s17 hx hl;obtain ⟨y,h1,h2⟩:=hb.snapOut;exact ⟨y,h2,fun c h hm=>pureT cb17 hm q h1 rfl⟩
theorem c18 {x:T}{vs:List WV}(hx:Slice x (vs.map varW))(hl:vs.length≤2000000):∃ y,Slice y (vs.map dcT)∧∀ (c:FuncId) (h:H),md c 18 = .pure→callD (cx.at c) (call cx prim) 18 [.t x] h=some (.t y,h):=by
 obtain ⟨d,h',q,hb⟩:=s18 hx hl;obtain ⟨y,h1,h2⟩:=hb.snapOut;exact ⟨y,h2,fun c h hm=>pureT cb18 hm q h1 rfl⟩
end Go.Proofs.YtaldobgfbkllfaaGreatDoor

namespace Go.Proofs.YtaldobgfbkllfaaGreatDoor
open Vai
def declF (ds:List DV)(nm:ByteArray):Option DV:=ds.find? fun d=>eqS d.1 nm
def declK (ds:List DV)(nm:ByteArray):Int:=match declF ds nm with|some d=>d.2|none=>0
def kind3 (k:Int):Int:=if 1≤k∧k≤3 then k else 0
theorem findD_drop {ds:List DV}{nm:ByteArray}{k:Nat}{v:DV}(hv:ds[k]?=some v):(ds.drop k).find? (fun v=>eqS v.1 nm)=if eqS v.1 nm=true then some v else (ds.drop (k+1)).find? fun v=>eqS v.1 nm:=by
 have hlt:k<ds.length:=by
  apply Classical.byContradiction;intro hn;rw [List.getElem?_eq_none (by omega)] at hv
  cases hv
 rw [List.drop_eq_getElem_cons hlt];rw [List.getElem?_eq_getElem hlt] at hv;rw [Option.some.inj hv,List.find?_cons];cases eqS v.1 nm<;>rfl
end Go.Proofs.YtaldobgfbkllfaaGreatDoor
namespace Go.Proofs.YtaldobgfbkllfaaGreatDoor.P0
open Vai
variable [Gl]
set_option maxHeartbeats 0
set_option maxRecDepth 100000
theorem c79 {c:FuncId}(b:Bool)(k:Int)(h:H)(hm:md c 79 = .pure):callD (cx.at c) (call cx prim0) 79 [.t (.bool b),.t (iv k)] h=some (.t (iv (if b then k else 0)),h):=by
 have:∃ h',call cx prim0 79 [.t (.bool b),.t (iv k)] .empty=some (.t (iv (if b then k else 0)),h'):=by
  rw [call_run (cx:=cx) rfl Tryz.func79 ok79 nd79 rfl (lbe rfl) rfl rfl];cases b<;>simp -implicitDefEqProofs (disch:=omega)
 obtain ⟨h',q⟩:=this;exact pureT cb79 hm q rfl rfl
theorem k130 (d:DV)(nm:ByteArray)(id:Nat)(h:H)(hi:id<h.next)(ho:h.objs id=some (.row 9 1 [.t (.str nm)]))(hmk:h.marks=[]) :
  callD (cx.at 129) (call cx prim0) 130 [.t (decT d),.ptr id 0 0 1] h=some (.t (.bool (eqS d.1 nm)),h.push (.row 35 2 [.t (decT d)])):=by
 have:call cx prim0 130 [.t (decT d),.ptr id 0 0 1] h=some (.t (.bool (eqS d.1 nm)),h.push (.row 35 2 [.t (decT d)])):=by
  rw [call_run (cx:=cx) rfl Tryz.func130 ok130 nd130 rfl (lbe rfl) rfl rfl];simp -implicitDefEqProofs (disch:=omega) [ho,ne0 hi,hmk]
 exact keepT cb130 rfl this
theorem s129 {y:T}{ds:List DV}{nm:ByteArray}(hy:Slice y (ds.map decT))(hl:ds.length≤2000000)(id:Nat)(h:H)(hi:id<h.next)(ho:h.objs id=some (.row 9 1 [.t (.str nm)]))(hmk:h.marks=[]) :
   ∃ k h',call cx prim0 129 [.t y,.func (.func 130) [] [.ptr id 0 0 1]] h=some (.t (iv k),h')∧Keeps h h'∧(match declF ds nm with|none=>k = -1|some d=>0≤k∧ds[k.toNat]?=some d):=by
 rw [call_run (cx:=cx) rfl Tryz.func129 ok129 nd129 rfl (lbe rfl) rfl rfl];have hlx:=fun hh=>hy.len (P:=Tryz.prog) (t:=32) tk32 hh
 rw [List.length_map] at hlx;simp -implicitDefEqProofs (disch:=omega) [hlx];generalize hLp:loopω _ _=L;obtain ⟨x',⟨nn,env,h2⟩,rfl,rfl,hq⟩:=loop_uses hLp ds.length
   (fun k st=>st.n=19∧st.env 0 = .t y∧st.env 1 = .func (.func 130) [] [.ptr id 0 0 1]∧st.env 7 = .t (.int .i64 ds.length)∧st.env 8 = .t (.int .i64 k)∧Keeps h st.h∧(ds.drop k).find? (fun v=>eqS v.1 nm)=declF ds nm)
   (fun x' st=>st.n=19∧Keeps h st.h∧((x' = .exit 0∧declF ds nm=none)∨(x' = .ret∧∃ k d,st.env 4 = .t (.int .i64 (k:Nat))∧declF ds nm=some d∧ds[k]?=some d)))
   (by refine ⟨rfl,?_⟩; simp [declF,Keeps.refl]) (by
   rintro k ⟨nn,env,h2⟩ hk ⟨rfl,e0,e1,e7,e8,kp,hb⟩;simp only at e0 e1 e7 e8 kp;rw [LB_run nd129 rfl];by_cases hk':k<ds.length
   · obtain ⟨v,hv⟩:∃ v,ds[k]?=some v:=⟨ds[k],by simp [hk']⟩
     have hxe:y = .slice (ds.map decT):=hy.eq_of_ne (by intro e; have:=congrArg List.length e; simp at this; subst this; simp at hk')
     subst hxe;have hg:(ds.map decT)[k]?=some (decT v):=by rw [List.getElem?_map,hv]; rfl
     have c1:(k:Int)<ds.length:=by omega
     rw [findD_drop hv] at hb;have q:=k130 v nm id h2 (Nat.lt_of_lt_of_le hi kp.1) (kp.obj ho hi) (kp.2.1.trans hmk);have kp2:=kp.trans (Keeps.push h2 (.row 35 2 [.t (decT v)]))
     cases he:eqS v.1 nm with
     | true =>
      rw [he,if_pos rfl] at hb;rw [he] at q;simp -implicitDefEqProofs (disch:=omega) [-List.getElem?_map,e0,e1,e7,e8,hg,q,Wp_some];exact ⟨kp2,k,rfl,v.1,v.2,hb.symm,hv⟩
     | false =>
      rw [he,if_neg (by simp)] at hb
      rw [he] at q;simp -implicitDefEqProofs (disch:=omega) [-List.getElem?_map,e0,e1,e7,e8,hg,q,Wp_some];exact ⟨hk',kp2,hb⟩
   · obtain rfl:k=ds.length:=by omega
     rw [List.drop_length] at hb;simp -implicitDefEqProofs (disch:=omega) [e0,e1,e7,e8,hlx,Wp_some];exact ⟨kp,hb.symm⟩)
 obtain ⟨kp,hq⟩:=hq;simp only at kp;rcases hq with ⟨rfl,hb⟩|⟨rfl,k,d,e4,hb,hd⟩
 · rw [hb]
   simp -implicitDefEqProofs (disch:=omega) [];exact ⟨_,_,⟨rfl,rfl⟩,kp,rfl⟩
 · simp only at e4
   rw [hb];simp -implicitDefEqProofs (disch:=omega) [e4];exact ⟨_,_,⟨rfl,rfl⟩,kp,by simp,by simpa using hd⟩
end Go.Proofs.YtaldobgfbkllfaaGreatDoor.P0

namespace Go.Proofs.YtaldobgfbkllfaaGreatDoor
open Vai
def usesS (x:PT):List Int:=if x.k=19 then [x.a,x.b,x.c] else if 6≤x.k∧x.k≤18 then [x.a,x.b] else if 3≤x.k∧x.k≤5 then [x.a] else []
def kdS (x:PT)(ds:List DV)(K:Int→Int):Int :=
 if x.k=1 then (if mayV x.vk x.vn x.s then x.vk else 0)
 else if x.k=2 then kind3 (declK ds x.nm)
 else if x.k=3 then (if K x.a=1 then 1 else 0)
 else if x.k=4 then (if K x.a=2 then 2 else 0)
 else if x.k=5 then (if K x.a=3 then 1 else 0)
 else if x.k=6∨x.k=7∨x.k=8∨x.k=10 then (if K x.a=1∧K x.b=1 then 1 else 0)
 else if x.k=9 then (if K x.a=K x.b∧(K x.a=1∨K x.a=3) then K x.a else 0)
 else if x.k=11∨x.k=12 then (if K x.a=K x.b∧0<K x.a then 2 else 0)
 else if x.k=13∨x.k=14∨x.k=15∨x.k=16 then (if K x.a=K x.b∧(K x.a=1∨K x.a=3) then 2 else 0)
 else if x.k=17∨x.k=18 then (if K x.a=2∧K x.b=2 then 2 else 0)
 else if x.k=19 then (if K x.a=2∧K x.b=K x.c then K x.b else 0)
 else 0
end Go.Proofs.YtaldobgfbkllfaaGreatDoor
namespace Go.Proofs.YtaldobgfbkllfaaGreatDoor.P0
open Vai
variable [Gl]
set_option maxHeartbeats 0
set_option maxRecDepth 100000
theorem c80 {c:FuncId}{y:T}{ds:List DV}{nm:ByteArray}(hy:Slice y (ds.map decT))(hl:ds.length≤2000000)(h:H)(hm:md c 80 = .pure):callD (cx.at c) (call cx prim0) 80 [.t y,.t (.str nm)] h=some (.t (iv (declK ds nm)),h):=by
 have:∃ h',call cx prim0 80 [.t y,.t (.str nm)] .empty=some (.t (iv (declK ds nm)),h'):=by
  rw [call_run (cx:=cx) rfl Tryz.func80 ok80 nd80 rfl (lbe rfl) rfl rfl];obtain ⟨k,h',q,kp,hk⟩:=s129 hy hl 0 (H.empty.push (.row 9 1 [.t (.str nm)])) (by simp [H.push,H.empty]) rfl rfl
  have q':=keepT (cc:=cx.at 80) cb129 rfl q;unfold declK
  cases hd:declF ds nm with
  | none =>
   rw [hd] at hk;subst hk;simp -implicitDefEqProofs (disch:=omega) [q']
  | some d =>
   rw [hd] at hk;obtain ⟨h0,hg⟩:=hk;have hne:ds≠[]:=fun e=>by rw [e] at hg; simp at hg
   have hxe:y = .slice (ds.map decT):=hy.eq_of_ne (by simpa using hne)
   subst hxe;have hg':(ds.map decT)[k.toNat]?=some (decT d):=by rw [List.getElem?_map,hg]; rfl
   simp -implicitDefEqProofs (disch:=omega) [-List.getElem?_map,q',h0,hg']
 obtain ⟨h',q⟩:=this;exact pureT cb80 hm q rfl rfl
section
variable {x:PT}{fo:FuncId}{ko:Nat}{K:Int→Int}{b p:Nat}{h:H}(hb:h.objs b=some (.row 90 1 [.func (.func fo) [] [.ptr ko 0 0 1]]))(hp:h.objs p=some (.row 57 9 [.t (prP x)]))
include hb hp
theorem k77 (hof:callD (cx.at 77) (call cx prim0) fo [.t (iv x.a),.ptr ko 0 0 1] h=some (.t (iv (K x.a)),h)):callD (cx.at 41) (call cx prim0) 77 [.ptr b 0 0 1,.ptr p 0 0 1] h=some (.t (iv (K x.a)),h):=by
 have:call cx prim0 77 [.ptr b 0 0 1,.ptr p 0 0 1] h=some (.t (iv (K x.a)),h):=by
  rw [call_run (cx:=cx) rfl Tryz.func77 ok77 nd77 rfl (lbe rfl) rfl rfl];simp -implicitDefEqProofs (disch:=omega) [hb,hp,hof]
 exact keepT cb77 rfl this
theorem k78 (hof:callD (cx.at 78) (call cx prim0) fo [.t (iv x.b),.ptr ko 0 0 1] h=some (.t (iv (K x.b)),h)):callD (cx.at 41) (call cx prim0) 78 [.ptr b 0 0 1,.ptr p 0 0 1] h=some (.t (iv (K x.b)),h):=by
 have:call cx prim0 78 [.ptr b 0 0 1,.ptr p 0 0 1] h=some (.t (iv (K x.b)),h):=by
  rw [call_run (cx:=cx) rfl Tryz.func78 ok78 nd78 rfl (lbe rfl) rfl rfl];simp -implicitDefEqProofs (disch:=omega) [hb,hp,hof]
 exact keepT cb78 rfl this
end
abbrev H41 (h:H)(x:PT)(fo:FuncId)(ko:Nat):H:=(h.push (.row 57 9 [.t (prP x)])).push (.row 90 1 [.func (.func fo) [] [.ptr ko 0 0 1]])
theorem s41_1 {x:PT}{y:T}{fo:FuncId}{ko:Nat}{h:H}(hk:x.k=1)(hmk:h.marks=[])(hs:x.s.size≤1000000000) :
  call cx prim0 41 [.t (prP x),.t y,.func (.func fo) [] [.ptr ko 0 0 1]] h=some (.t (iv (if mayV x.vk x.vn x.s then x.vk else 0)),H41 h x fo ko):=by
 rw [call_run (cx:=cx) rfl Tryz.func41 ok41 nd41 rfl (lbe rfl) rfl rfl];have q1:=fun h=>c59 (c:=41) x.vk x.vn x.s h hs rfl
 have q2:=fun b h=>c79 (c:=41) b x.vk h rfl
 obtain ⟨k,a,b,c,vk,vn,s,nm,at_⟩:=x;simp only at hk;subst hk;simp -implicitDefEqProofs (disch:=omega) [q1,q2,md,hmk]
end Go.Proofs.YtaldobgfbkllfaaGreatDoor.P0
