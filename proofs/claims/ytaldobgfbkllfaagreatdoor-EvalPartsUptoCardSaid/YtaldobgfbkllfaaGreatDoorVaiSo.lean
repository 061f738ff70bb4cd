import Derived.Test.YtaldobgfbkllfaaGreatDoorVaiSn
import Derived.Test.YtaldobgfbkllfaaGreatDoorVaiSm
import Derived.Test.YtaldobgfbkllfaaGreatDoorVaiSb
set_option linter.unusedSimpArgs false
set_option linter.unusedVariables false
set_option linter.unusedSectionVars false
namespace Go.Proofs.YtaldobgfbkllfaaGreatDoor
open Vai
variable [Gl]
set_option maxHeartbeats 0
set_option maxRecDepth 100000
theorem mul_abs (a b:Int):a*b=if (a<0)=(b<0) then ((a.natAbs*b.natAbs:Nat):Int) else -((a.natAbs*b.natAbs:Nat):Int):=by
 rcases Int.le_total 0 a with h1|h1<;>rcases Int.le_total 0 b with h2|h2
 · obtain ⟨m,rfl⟩:=Int.eq_ofNat_of_zero_le h1
   obtain ⟨n,rfl⟩:=Int.eq_ofNat_of_zero_le h2;rw [if_pos (by simp only [eq_iff_iff]; omega)]
   simp
 · obtain ⟨m,rfl⟩:=Int.eq_ofNat_of_zero_le h1
   obtain ⟨n,hn⟩:=Int.eq_ofNat_of_zero_le (a:=-b) (by omega)
   have:b = -(n:Int):=by omega
   subst this;by_cases hn0:n=0
   · subst hn0; simp
   · rw [if_neg (by simp only [eq_iff_iff]; omega),Int.mul_neg]
     simp
 · obtain ⟨m,hm⟩:=Int.eq_ofNat_of_zero_le (a:=-a) (by omega)
   have:a = -(m:Int):=by omega
   subst this;obtain ⟨n,rfl⟩:=Int.eq_ofNat_of_zero_le h2;by_cases hm0:m=0
   · subst hm0; simp
   · rw [if_neg (by simp only [eq_iff_iff]; omega),Int.neg_mul]
     simp
 · obtain ⟨m,hm⟩:=Int.eq_ofNat_of_zero_le (a:=-a) (by omega)
   have:a = -(m:Int):=by omega
   subst this;obtain ⟨n,hn⟩:=Int.eq_ofNat_of_zero_le (a:=-b) (by omega)
   have:b = -(n:Int):=by omega
   subst this;by_cases hm0:m=0
   · subst hm0; simp
   · by_cases hn0:n=0
     · subst hn0; simp
     · rw [if_pos (by simp only [eq_iff_iff]; omega),Int.neg_mul_neg]
       simp
theorem c112 {c:FuncId}{a b:Int}(ha:In64 a)(hb:In64 b)(h:H)(hm:md c 112 = .pure):∃ w,callD (cx.at c) (call cx prim) 112 [.t (iv a),.t (iv b)] h=some (.tup [.t (iv w),.t (.bool (decide (In64 (a*b))))],h)∧(In64 (a*b)→w=a*b):=by
 have:∃ w h',call cx prim 112 [.t (iv a),.t (iv b)] .empty=some (.tup [.t (iv w),.t (.bool (decide (In64 (a*b))))],h')∧(In64 (a*b)→w=a*b):=by
  rw [call_run (cx:=cx) rfl Tryz.func112 ok112 nd112 rfl (lbe rfl) rfl rfl]
  suffices key:∀ (B:Bool) (Pr:Prop),decide (In64 (a*b))=B→(Pr→In64 (a*b))→∃ w h',endC cx.P Tryz.f112.results.toList (codeB (cx.at 112) (call cx prim) loopω (LB cx prim 112 Tryz.f112) _ ⟨55,enterU 0 [.t (iv a),.t (iv b)] fun _=>.undef,.empty⟩)=some (.tup [.t (iv w),.t (.bool B)],h')∧(Pr→w=a*b) from key _ _ rfl id
  intro B Pr hB hP;have q1:=fun h=>c151 (c:=112) ha h rfl
  have q2:=fun h=>c151 (c:=112) hb h rfl
  have ha':=ha;have hb':=hb;simp only [In64] at ha' hb';have hab:=mul_abs a b;generalize hN:(ltI a 0 == ltI b 0)=N;have hN':(a<0)=(b<0)↔N=true:=by
    rw [←hN];simp only [ltI,eq_iff_iff,beq_iff_eq];by_cases h1:a<0<;>by_cases h2:b<0<;>simp [h1,h2]
  simp -implicitDefEqProofs (disch:=omega) [q1,q2];generalize hLp:loopω _ _=L;obtain ⟨x',⟨nn,env,h2⟩,rfl,rfl,hq⟩:=l112 (x:=a.natAbs) (y:=b.natAbs) (by omega) (by omega) hLp rfl (by simp) (by simp) (by simp) (by simp) (d6:=.t (.bool (!N))) (by simp [←hN])
  clear hLp;rcases hq with ⟨rfl,f9,hlt,f6⟩|⟨rfl,f4,f5,hgt⟩
  · simp only at f9 f6
    generalize a.natAbs*b.natAbs=U at *
    cases hNN:N with
    | true =>
     rw [hNN] at f6;rw [if_pos (hN'.2 hNN)] at hab;obtain ⟨w,q3,hw⟩:=c152p (c:=112) (u:=(U:Int)) (by omega) (by omega) h2 rfl
     have e4:decide (In64 (a*b))=leI (U:Int) 9223372036854775807:=by
      unfold leI; apply decide_eq_decide.2; rw [hab]; simp only [In64]; omega
     rw [hB] at e4;subst e4;refine ⟨w,?_⟩;simp -implicitDefEqProofs (disch:=omega) [f9,f6,q3];intro hp;have:=hP hp;rw [hab] at this ⊢;simp only [In64] at this;exact hw (by omega)
    | false =>
     rw [hNN] at f6;rw [if_neg (fun h=>by rw [hN'.1 h] at hNN; cases hNN)] at hab
     obtain ⟨w,q3,hw⟩:=c152n (c:=112) (u:=(U:Int)) (by omega) (by omega) h2 rfl
     have e4:decide (In64 (a*b))=leI (U:Int) 9223372036854775808:=by
      unfold leI; apply decide_eq_decide.2; rw [hab]; simp only [In64]; omega
     rw [hB] at e4;subst e4;refine ⟨w,?_⟩;simp -implicitDefEqProofs (disch:=omega) [f9,f6,q3];intro hp;have:=hP hp;rw [hab] at this ⊢;simp only [In64] at this;exact hw (by omega)
  · simp only at f4 f5
    generalize a.natAbs*b.natAbs=U at *;have hno:¬ In64 (a*b):=by
     rw [hab]; simp only [In64]; split<;>omega
    have e4:decide (In64 (a*b))=false:=decide_eq_false hno;rw [hB] at e4;subst e4;refine ⟨0,?_⟩;simp -implicitDefEqProofs (disch:=omega) [f4,f5];exact fun h=>absurd (hP h) hno
 obtain ⟨w,h',q,hw⟩:=this;exact ⟨w,pureT cb112 hm q rfl rfl,hw⟩
end Go.Proofs.YtaldobgfbkllfaaGreatDoor

namespace Go.Proofs.YtaldobgfbkllfaaGreatDoor
open Vai
set_option maxHeartbeats 0
theorem bl_trans:∀ a b c:List UInt8,Op.bytesLess a b=true→Op.bytesLess b c=true→Op.bytesLess a c=true
 | _,[],_,h,_=>by cases h':‹List UInt8›<;>simp [Op.bytesLess] at h
 | _,_::_,[],_,h=>by simp [Op.bytesLess] at h
 | [],_::_,_::_,_,_=>rfl
 | a::x,b::y,c::z,h1,h2=>by
  have ih:=bl_trans x y z;simp only [Op.bytesLess,Bool.or_eq_true,decide_eq_true_eq,Bool.and_eq_true,beq_iff_eq] at h1 h2 ⊢;rcases h1 with h1|⟨rfl,h1⟩
  · rcases h2 with h2|⟨rfl,h2⟩
    · left; rw [UInt8.lt_iff_toNat_lt] at *; omega
    · exact .inl h1
  · rcases h2 with h2|⟨rfl,h2⟩
    · exact .inl h2
    · exact .inr ⟨rfl,ih h1 h2⟩
theorem bl_irrefl:∀ a:List UInt8,Op.bytesLess a a=false
 | []=>rfl
 | a::x=>by simp [Op.bytesLess,bl_irrefl x,UInt8.lt_irrefl]
theorem lessS_trans {a b c:ByteArray}(h1:lessS a b=true)(h2:lessS b c=true):lessS a c=true:=bl_trans _ _ _ h1 h2
theorem lessS_irrefl (a:ByteArray):lessS a a=false:=bl_irrefl _
theorem lessS_total (a b:ByteArray):lessS a b=true∨a=b∨lessS b a=true:=by
 have h:=less_total a.toList b.toList;unfold lessS
 cases h1:Op.bytesLess a.toList b.toList with
 | true=>exact .inl rfl
 | false =>
  rw [h1,Bool.false_or,str_eq] at h;by_cases e:a=b
  · exact .inr (.inl e)
  · rw [decide_eq_false e] at h
    exact .inr (.inr (by simpa using h.symm))
theorem less_asym {a b:ByteArray}(h:lessS a b=true):lessS b a=false:=by
 cases h':lessS b a with
 | false=>rfl
 | true=>exact absurd (lessS_trans h h') (by rw [lessS_irrefl]; decide)
theorem cmpB_lt (a b:ByteArray):ltI (cmpB a b) 0=lessS a b:=by
 unfold cmpB;have e:Op.bytesLess a.toList b.toList=lessS a b:=rfl;have e2:Op.bytesLess b.toList a.toList=lessS b a:=rfl;rw [e,e2];cases h1:lessS a b<;>cases h2:lessS b a<;>simp
theorem cmpB_gt (a b:ByteArray):ltI 0 (cmpB a b)=lessS b a:=by
 unfold cmpB;have e:Op.bytesLess a.toList b.toList=lessS a b:=rfl;have e2:Op.bytesLess b.toList a.toList=lessS b a:=rfl;rw [e,e2]
 cases h1:lessS a b with
 | true=>rw [less_asym h1]; simp
 | false=>cases h2:lessS b a<;>simp
theorem cmpB_eq (a b:ByteArray):eqI (cmpB a b) 0=eqS a b:=by
 unfold cmpB;have e:Op.bytesLess a.toList b.toList=lessS a b:=rfl;have e2:Op.bytesLess b.toList a.toList=lessS b a:=rfl;rw [e,e2];rcases lessS_total a b with h|h|h
 · have hne:¬ a=b:=fun he=>by subst he; rw [lessS_irrefl] at h; cases h
   rw [h]; simp [eqS,hne]
 · subst h; rw [lessS_irrefl]; simp
 · have hne:¬ a=b:=fun he=>by subst he; rw [lessS_irrefl] at h; cases h
   rw [h,less_asym h]; simp [eqS,hne]
def TV (k:Int)(v:V3):Prop:=v.1=k∧(k=1→v.2.2=⟨#[]⟩)∧(k=2→v.2.2=⟨#[]⟩∧(v.2.1=0∨v.2.1=1))∧(k=3→v.2.1=0)
theorem cmpV_lt {k:Int}{x y:V3}(hk:k=1∨k=3)(hx:TV k x)(hy:TV k y):ltI (cmpV x.2.1 y.2.1 x.2.2 y.2.2) 0=lessV x y:=by
 obtain ⟨x1,x2,x3,x4⟩:=hx;obtain ⟨y1,y2,y3,y4⟩:=hy;unfold lessV cmpV;rw [x1];rcases hk with rfl|rfl
 · rw [x2 rfl,y2 rfl]
   simp only [show ((1:Int)=3)=False by decide,if_false]
   have:cmpB ⟨#[]⟩ ⟨#[]⟩=0:=by decide +kernel
   rw [this];unfold cmpI;by_cases h1:x.2.1<y.2.1
   · simp [h1]
   · by_cases h2:y.2.1<x.2.1<;>simp [h1,h2,ltI]
 · rw [if_pos rfl,x4 rfl,y4 rfl]
   simp [cmpI,cmpB_lt]
theorem cmpV_gt {k:Int}{x y:V3}(hk:k=1∨k=3)(hx:TV k x)(hy:TV k y):ltI 0 (cmpV x.2.1 y.2.1 x.2.2 y.2.2)=lessV y x:=by
 obtain ⟨x1,x2,x3,x4⟩:=hx;obtain ⟨y1,y2,y3,y4⟩:=hy;unfold lessV cmpV;rw [y1];rcases hk with rfl|rfl
 · rw [x2 rfl,y2 rfl]
   simp only [show ((1:Int)=3)=False by decide,if_false]
   have:cmpB ⟨#[]⟩ ⟨#[]⟩=0:=by decide +kernel
   rw [this];unfold cmpI;by_cases h1:x.2.1<y.2.1
   · have:¬ y.2.1<x.2.1:=by omega
     simp [h1,ltI,this]
   · by_cases h2:y.2.1<x.2.1<;>simp [h1,h2,ltI]
 · rw [if_pos rfl,x4 rfl,y4 rfl]
   simp [cmpI,cmpB_gt]
theorem cmpV_eq {k:Int}{x y:V3}(hk:1≤k∧k≤3)(hx:TV k x)(hy:TV k y):eqI (cmpV x.2.1 y.2.1 x.2.2 y.2.2) 0=(eqI x.1 y.1&&(eqI x.2.1 y.2.1&&eqS x.2.2 y.2.2)):=by
 obtain ⟨x1,x2,x3,x4⟩:=hx;obtain ⟨y1,y2,y3,y4⟩:=hy;unfold cmpV;rw [x1,y1,eqI_self,Bool.true_and];have h0:cmpB ⟨#[]⟩ ⟨#[]⟩=0:=by decide +kernel
 have num:∀ m n:Int,eqI (if cmpI m n=0 then 0 else cmpI m n) 0=(eqI m n&&eqS ⟨#[]⟩ ⟨#[]⟩):=fun m n=>by
   rw [eqS_self,Bool.and_true];unfold cmpI;by_cases h1:m<n
   · have:¬ m=n:=by omega
     simp [h1,eqI,this]
   · by_cases h2:n<m
     · have:¬ m=n:=by omega
       simp [h1,h2,eqI,this]
     · have:m=n:=by omega
       simp [this,eqI]
 have hk':k=1∨k=2∨k=3:=by omega
 rcases hk' with rfl|rfl|rfl
 · rw [x2 rfl,y2 rfl,h0]; exact num _ _
 · rw [(x3 rfl).1,(y3 rfl).1,h0]; exact num _ _
 · rw [x4 rfl,y4 rfl]
   simp [cmpI,cmpB_eq]
theorem holds_le (c:Int):leI c 0 = !ltI 0 c:=by
 unfold leI ltI;by_cases h:c≤0
 · have:¬ 0<c:=by omega
   simp [h]
 · have:0<c:=by omega
   simp [h,this]
theorem holds_ge (c:Int):leI 0 c = !ltI c 0:=by
 unfold leI ltI;by_cases h:c<0
 · have:¬ 0≤c:=by omega
   simp [h]
 · have:0≤c:=by omega
   simp [h,this]
theorem sub_exact2 {a b:Int}(ha:In64 a)(hb:In64 b):if In64 (a-b) then numV 10 a b=(a-b,true) else (numV 10 a b).2=false:=by
 split
 · rename_i h; exact sub_exact ha hb h
 · rename_i h
   simp only [numV];rw [if_neg (by decide),if_pos trivial]
   obtain ⟨q,hq⟩:=wrap_cong (a-b);have hr:=wrap_range (a-b);generalize IntKind.i64.wrap (a-b)=w at hq hr ⊢;simp only [In64] at h ha hb;by_cases h1:0<b
   · rw [ltI_true (a:=0) h1,ltI_false (by omega)]; rfl
   · rw [ltI_false (a:=0) (by omega),ltI_true (by omega)]; rfl
theorem div_exact {a b:Int}(ha:In64 a)(hb:In64 b)(hb0:b≠0):if In64 (a.tdiv b) then numV 7 a b=(a.tdiv b,true) else (numV 7 a b).2=false:=by
 have hd:(numV 7 a b)=(IntKind.i64.wrap (a.tdiv b),!(eqI a (-9223372036854775808)&&eqI b (-1))):=by simp [numV]
 split
 · rename_i h
   rw [hd,wrap_in h];have:(eqI a (-9223372036854775808)&&eqI b (-1))=false:=by
     cases h1:eqI a (-9223372036854775808)<;>cases h2:eqI b (-1)<;>simp only [eqI,decide_eq_true_eq,decide_eq_false_iff_not] at h1 h2<;>first|rfl|(subst h1; subst h2; exact absurd h (by decide))
   rw [this]; rfl
 · rename_i h
   rw [hd];by_cases hx:a = -9223372036854775808∧b = -1
   · rw [hx.1,hx.2]; rfl
   · exfalso
     have h5:(a.tdiv b).natAbs≤a.natAbs:=by
       rw [Int.natAbs_tdiv]; exact Nat.div_le_self _ _
     have h8:=Int.mul_tdiv_add_tmod a b;have h9:(a.tmod b).natAbs<b.natAbs:=by
       rw [Int.natAbs_tmod]; exact Nat.mod_lt _ (by omega)
     simp only [In64] at *;by_cases h6:a.tdiv b=9223372036854775808
     · rw [h6] at h8
       have h7:a = -9223372036854775808:=by omega
       have h10:b = -1:=by omega
       exact hx ⟨h7,h10⟩
     · omega
end Go.Proofs.YtaldobgfbkllfaaGreatDoor

namespace Go.Proofs.YtaldobgfbkllfaaGreatDoor
open Vai
variable [Gl]
set_option maxHeartbeats 0
set_option maxRecDepth 100000
def Two (k A B:Int):Prop:=(k=9∧A=B∧(A=1∨A=3))∨((k=6∨k=7∨k=8∨k=10)∧A=1∧B=1)∨((k=11∨k=12)∧A=B∧1≤A∧A≤3)∨((k=13∨k=14∨k=15∨k=16)∧A=B∧(A=1∨A=3))
section
variable {X Y:V3}{A B:Int}(hX:TV A X)(hY:TV B Y)(oX:OKV X)(oY:OKV Y)
include hX hY oX oY
theorem s69_9t (hA:A=3)(hB:B=3):∃ h',call cx prim 69 [.t (iv 9),.t (val3 X),.t (val3 Y)] .empty=some (.tup [.t (val3 (twoV 9 X Y).1),.t (iv (twoV 9 X Y).2)],h'):=by
 rw [call_run (cx:=cx) rfl Tryz.func69 ok69 nd69 rfl (lbe rfl) rfl rfl];have hx1:X.1=3:=hX.1.trans hA;have s1:=oX.2.2;have s2:=oY.2.2;unfold twoV;rw [if_pos (by decide),if_pos hx1]
 obtain ⟨x1,x2,x3⟩:=X;obtain ⟨y1,y2,y3⟩:=Y;simp only at hx1 s1 s2 ⊢;subst hx1;by_cases hL:x3.size+y3.size>64
 · have e1:ltI 64 ((x3.size:Int)+y3.size)=true:=ltI_true (by omega)
   simp -implicitDefEqProofs (disch:=omega) [e1,hL]
 · have e1:ltI 64 ((x3.size:Int)+y3.size)=false:=ltI_false (by omega)
   have e2:x3.size+y3.size≤9223372036854775807:=by omega
   simp -implicitDefEqProofs (disch:=omega) [e1,hL,e2]
theorem s69_9n (hA:A=1)(hB:B=1):∃ h',call cx prim 69 [.t (iv 9),.t (val3 X),.t (val3 Y)] .empty=some (.tup [.t (val3 (twoV 9 X Y).1),.t (iv (twoV 9 X Y).2)],h'):=by
 rw [call_run (cx:=cx) rfl Tryz.func69 ok69 nd69 rfl (lbe rfl) rfl rfl];have hx1:X.1=1:=hX.1.trans hA;have i1:In64 X.2.1:=⟨oX.1,oX.2.1⟩;have i2:In64 Y.2.1:=⟨oY.1,oY.2.1⟩;have hex:=add_exact i1 i2;obtain ⟨w,q1,hw⟩:=c111 (c:=69) i1 i2 (((H.empty.push (.row 26 3 [.t (val3 X)])).push (.row 26 3 [.t (val3 Y)])).push (.row 26 3 [.t (vv 0 0 ⟨#[]⟩)])) rfl;have q2:=fun n b h=>c110 (c:=69) n b h rfl
 unfold twoV;rw [if_pos (by decide),if_neg (by omega),if_neg (by omega)]
 obtain ⟨x1,x2,x3⟩:=X;obtain ⟨y1,y2,y3⟩:=Y;simp only at hx1 q1 hw hex ⊢;subst hx1;by_cases hi:In64 (x2+y2)
 · rw [if_pos hi] at hex
   rw [hw hi,decide_eq_true hi] at q1;rw [hex];simp -implicitDefEqProofs (disch:=omega) [q1,q2]
 · rw [if_neg hi] at hex
   rw [decide_eq_false hi] at q1;rw [hex];simp -implicitDefEqProofs (disch:=omega) [q1,q2]
theorem s69_6 (hA:A=1)(hB:B=1):∃ h',call cx prim 69 [.t (iv 6),.t (val3 X),.t (val3 Y)] .empty=some (.tup [.t (val3 (twoV 6 X Y).1),.t (iv (twoV 6 X Y).2)],h'):=by
 rw [call_run (cx:=cx) rfl Tryz.func69 ok69 nd69 rfl (lbe rfl) rfl rfl];have hx1:X.1=1:=hX.1.trans hA;have i1:In64 X.2.1:=⟨oX.1,oX.2.1⟩;have i2:In64 Y.2.1:=⟨oY.1,oY.2.1⟩;have q2:=fun n b h=>c110 (c:=69) n b h rfl
 have hex:=mul_exact i1 i2;obtain ⟨w,q1,hw⟩:=c112 (c:=69) i1 i2 (((H.empty.push (.row 26 3 [.t (val3 X)])).push (.row 26 3 [.t (val3 Y)])).push (.row 26 3 [.t (vv 0 0 ⟨#[]⟩)])) rfl;unfold twoV;rw [if_pos (by decide),if_neg (by omega),if_neg (by omega)]
 obtain ⟨x1,x2,x3⟩:=X;obtain ⟨y1,y2,y3⟩:=Y;simp only at hx1 q1 hw hex ⊢;subst hx1;by_cases hi:In64 (x2*y2)
 · rw [if_pos hi] at hex
   rw [hw hi,decide_eq_true hi] at q1;rw [hex];simp -implicitDefEqProofs (disch:=omega) [q1,q2]
 · rw [if_neg hi] at hex
   rw [decide_eq_false hi] at q1;rw [hex];simp -implicitDefEqProofs (disch:=omega) [q1,q2]
theorem s69_10m (hA:A=1)(hB:B=1)(hm:Y.2.1=minI):∃ h',call cx prim 69 [.t (iv 10),.t (val3 X),.t (val3 Y)] .empty=some (.tup [.t (val3 (twoV 10 X Y).1),.t (iv (twoV 10 X Y).2)],h'):=by
 rw [call_run (cx:=cx) rfl Tryz.func69 ok69 nd69 rfl (lbe rfl) rfl rfl];have hx1:X.1=1:=hX.1.trans hA;have i1:In64 X.2.1:=⟨oX.1,oX.2.1⟩;have i2:In64 Y.2.1:=⟨oY.1,oY.2.1⟩;have q2:=fun n b h=>c110 (c:=69) n b h rfl
 have hex:=sub_exact2 i1 i2;have i3:In64 9223372036854775807:=by decide
 obtain ⟨w,q1,hw⟩:=c111 (c:=69) i1 i3 (((H.empty.push (.row 26 3 [.t (val3 X)])).push (.row 26 3 [.t (val3 Y)])).push (.row 26 3 [.t (vv 0 0 ⟨#[]⟩)])) rfl;unfold twoV;rw [if_pos (by decide),if_neg (by omega),if_neg (by omega)]
 obtain ⟨x1,x2,x3⟩:=X;obtain ⟨y1,y2,y3⟩:=Y;simp only at hx1 q1 hw hex hm i1 ⊢;subst hx1 hm;by_cases h0:0≤x2
 · have hi:¬ In64 (x2-minI):=by simp only [In64,minI]; omega
   rw [if_neg hi] at hex;rw [hex];simp -implicitDefEqProofs (disch:=omega) [q1,q2,h0]
 · have hi:In64 (x2-minI):=by simp only [In64,minI] at *; omega
   have hi2:In64 (x2+9223372036854775807):=by simp only [In64] at *; omega
   rw [if_pos hi] at hex;rw [hw hi2,decide_eq_true hi2] at q1;have e1:IntKind.i64.wrap (x2+9223372036854775807+1)=x2-minI:=by
    have:x2+9223372036854775807+1=x2-minI:=by simp only [minI]; omega
    rw [this,wrap_in hi]
   rw [hex];simp -implicitDefEqProofs (disch:=omega) [q1,q2,h0,e1]
theorem s69_10 (hA:A=1)(hB:B=1)(hm:Y.2.1≠minI):∃ h',call cx prim 69 [.t (iv 10),.t (val3 X),.t (val3 Y)] .empty=some (.tup [.t (val3 (twoV 10 X Y).1),.t (iv (twoV 10 X Y).2)],h'):=by
 rw [call_run (cx:=cx) rfl Tryz.func69 ok69 nd69 rfl (lbe rfl) rfl rfl];have hx1:X.1=1:=hX.1.trans hA;have i1:In64 X.2.1:=⟨oX.1,oX.2.1⟩;have i2:In64 Y.2.1:=⟨oY.1,oY.2.1⟩;have q2:=fun n b h=>c110 (c:=69) n b h rfl
 have hex:=sub_exact2 i1 i2;have i3:In64 (-Y.2.1):=by simp only [In64,minI] at *; omega
 obtain ⟨w,q1,hw⟩:=c111 (c:=69) i1 i3 (((H.empty.push (.row 26 3 [.t (val3 X)])).push (.row 26 3 [.t (val3 Y)])).push (.row 26 3 [.t (vv 0 0 ⟨#[]⟩)])) rfl;unfold twoV;rw [if_pos (by decide),if_neg (by omega),if_neg (by omega)]
 obtain ⟨x1,x2,x3⟩:=X;obtain ⟨y1,y2,y3⟩:=Y;simp only at hx1 q1 hw hex hm i1 i2 i3 ⊢;subst hx1;have em:eqI y2 (-9223372036854775808)=false:=eqI_false hm;have en:IntKind.i64.wrap (-y2) = -y2:=wrap_in i3;have ea:x2 + -y2=x2-y2:=by omega
 rw [ea] at q1 hw;by_cases hi:In64 (x2-y2)
 · rw [if_pos hi] at hex
   rw [hw hi,decide_eq_true hi] at q1;rw [hex];simp -implicitDefEqProofs (disch:=omega) [q1,q2,em,en]
 · rw [if_neg hi] at hex
   rw [decide_eq_false hi] at q1;rw [hex];simp -implicitDefEqProofs (disch:=omega) [q1,q2,em,en]
theorem s69_7z (hA:A=1)(hB:B=1)(hz:Y.2.1=0):∃ h',call cx prim 69 [.t (iv 7),.t (val3 X),.t (val3 Y)] .empty=some (.tup [.t (val3 (twoV 7 X Y).1),.t (iv (twoV 7 X Y).2)],h'):=by
 rw [call_run (cx:=cx) rfl Tryz.func69 ok69 nd69 rfl (lbe rfl) rfl rfl];have hx1:X.1=1:=hX.1.trans hA;have i1:In64 X.2.1:=⟨oX.1,oX.2.1⟩;have i2:In64 Y.2.1:=⟨oY.1,oY.2.1⟩;have q2:=fun n b h=>c110 (c:=69) n b h rfl
 unfold twoV;rw [if_pos (by decide),if_neg (by omega),if_pos ⟨hz,by decide⟩]
 obtain ⟨x1,x2,x3⟩:=X;obtain ⟨y1,y2,y3⟩:=Y;simp only at hz ⊢;subst hz;simp -implicitDefEqProofs (disch:=omega) []
theorem s69_8z (hA:A=1)(hB:B=1)(hz:Y.2.1=0):∃ h',call cx prim 69 [.t (iv 8),.t (val3 X),.t (val3 Y)] .empty=some (.tup [.t (val3 (twoV 8 X Y).1),.t (iv (twoV 8 X Y).2)],h'):=by
 rw [call_run (cx:=cx) rfl Tryz.func69 ok69 nd69 rfl (lbe rfl) rfl rfl];have hx1:X.1=1:=hX.1.trans hA;have i1:In64 X.2.1:=⟨oX.1,oX.2.1⟩;have i2:In64 Y.2.1:=⟨oY.1,oY.2.1⟩;have q2:=fun n b h=>c110 (c:=69) n b h rfl
 unfold twoV;rw [if_pos (by decide),if_neg (by omega),if_pos ⟨hz,by decide⟩]
 obtain ⟨x1,x2,x3⟩:=X;obtain ⟨y1,y2,y3⟩:=Y;simp only at hz ⊢;subst hz;simp -implicitDefEqProofs (disch:=omega) []
theorem s69_7 (hA:A=1)(hB:B=1)(hz:Y.2.1≠0):∃ h',call cx prim 69 [.t (iv 7),.t (val3 X),.t (val3 Y)] .empty=some (.tup [.t (val3 (twoV 7 X Y).1),.t (iv (twoV 7 X Y).2)],h'):=by
 rw [call_run (cx:=cx) rfl Tryz.func69 ok69 nd69 rfl (lbe rfl) rfl rfl];have hx1:X.1=1:=hX.1.trans hA;have i1:In64 X.2.1:=⟨oX.1,oX.2.1⟩;have i2:In64 Y.2.1:=⟨oY.1,oY.2.1⟩;have q2:=fun n b h=>c110 (c:=69) n b h rfl
 have hex:=div_exact i1 i2 hz;obtain ⟨w,q1,hw⟩:=c113 (c:=69) i1 i2 hz (((H.empty.push (.row 26 3 [.t (val3 X)])).push (.row 26 3 [.t (val3 Y)])).push (.row 26 3 [.t (vv 0 0 ⟨#[]⟩)])) rfl;unfold twoV;rw [if_pos (by decide),if_neg (by omega),if_neg (fun h=>hz h.1)]
 obtain ⟨x1,x2,x3⟩:=X;obtain ⟨y1,y2,y3⟩:=Y;simp only at hx1 q1 hw hex hz ⊢;subst hx1;have ez:eqI y2 0=false:=eqI_false hz;by_cases hi:In64 (x2.tdiv y2)
 · rw [if_pos hi] at hex
   rw [hw hi,decide_eq_true hi] at q1;rw [hex];simp -implicitDefEqProofs (disch:=omega) [q1,q2,ez]
 · rw [if_neg hi] at hex
   rw [decide_eq_false hi] at q1;rw [hex];simp -implicitDefEqProofs (disch:=omega) [q1,q2,ez]
theorem s69_8 (hA:A=1)(hB:B=1)(hz:Y.2.1≠0):∃ h',call cx prim 69 [.t (iv 8),.t (val3 X),.t (val3 Y)] .empty=some (.tup [.t (val3 (twoV 8 X Y).1),.t (iv (twoV 8 X Y).2)],h'):=by
 rw [call_run (cx:=cx) rfl Tryz.func69 ok69 nd69 rfl (lbe rfl) rfl rfl];have hx1:X.1=1:=hX.1.trans hA;have i1:In64 X.2.1:=⟨oX.1,oX.2.1⟩;have i2:In64 Y.2.1:=⟨oY.1,oY.2.1⟩;have q2:=fun n b h=>c110 (c:=69) n b h rfl
 have q1:=fun h=>c114 (c:=69) i1 i2 hz h rfl
 unfold twoV;rw [if_pos (by decide),if_neg (by omega),if_neg (fun h=>hz h.1)]
 obtain ⟨x1,x2,x3⟩:=X;obtain ⟨y1,y2,y3⟩:=Y;simp only at hx1 q1 hz ⊢;subst hx1;have ez:eqI y2 0=false:=eqI_false hz;simp -implicitDefEqProofs (disch:=omega) [q1,q2,ez,numV]
theorem s69_eq {k:Int}(hk:k=11∨k=12)(hAB:A=B)(hA:1≤A∧A≤3):∃ h',call cx prim 69 [.t (iv k),.t (val3 X),.t (val3 Y)] .empty=some (.tup [.t (val3 (twoV k X Y).1),.t (iv (twoV k X Y).2)],h'):=by
 rw [call_run (cx:=cx) rfl Tryz.func69 ok69 nd69 rfl (lbe rfl) rfl rfl];subst hAB;have q1:=fun b h=>c68 (c:=69) b h rfl
 have hc:=cmpV_eq hA hX hY;unfold twoV;obtain ⟨x1,x2,x3⟩:=X;obtain ⟨y1,y2,y3⟩:=Y;simp only at hc ⊢;generalize cmpV x2 y2 x3 y3=C at hc ⊢;generalize hE:(eqI x1 y1&&(eqI x2 y2&&eqS x3 y3))=E at hc;rcases hk with rfl|rfl
 all_goals
  simp only [holdsC];cases E<;>simp -implicitDefEqProofs (disch:=omega) [q1,lv26,eqCells,eqCell,hE,hc]
theorem s69_cmp {k:Int}(hk:k=13∨k=14∨k=15∨k=16)(hAB:A=B)(hA:A=1∨A=3):∃ h',call cx prim 69 [.t (iv k),.t (val3 X),.t (val3 Y)] .empty=some (.tup [.t (val3 (twoV k X Y).1),.t (iv (twoV k X Y).2)],h'):=by
 rw [call_run (cx:=cx) rfl Tryz.func69 ok69 nd69 rfl (lbe rfl) rfl rfl];subst hAB;have q1:=fun b h=>c68 (c:=69) b h rfl
 have q2:=fun h=>c115 (c:=69) X Y h rfl
 have q3:=fun h=>c115 (c:=69) Y X h rfl
 have hc:=cmpV_lt hA hX hY;have hd:=cmpV_gt hA hX hY;unfold twoV;obtain ⟨x1,x2,x3⟩:=X;obtain ⟨y1,y2,y3⟩:=Y;simp only at hc hd q2 q3 ⊢;generalize cmpV x2 y2 x3 y3=C at hc hd ⊢;generalize lessV (x1,x2,x3) (y1,y2,y3)=L at *;generalize lessV (y1,y2,y3) (x1,x2,x3)=G at *;rcases hk with rfl|rfl|rfl|rfl
 all_goals
  simp only [holdsC,holds_le,holds_ge];cases L<;>cases G<;>simp -implicitDefEqProofs (disch:=omega) [q1,q2,q3,hc,hd]
theorem s69 {k:Int}(hk:Two k A B):∃ h',call cx prim 69 [.t (iv k),.t (val3 X),.t (val3 Y)] .empty=some (.tup [.t (val3 (twoV k X Y).1),.t (iv (twoV k X Y).2)],h'):=by
 rcases hk with ⟨rfl,hAB,hA⟩|⟨hk,hA,hB⟩|⟨hk,hAB,h1,h2⟩|⟨hk,hAB,hA⟩
 · rcases hA with hA|hA
   · exact s69_9n hX hY oX oY hA (by omega)
   · exact s69_9t hX hY oX oY hA (by omega)
 · rcases hk with rfl|rfl|rfl|rfl
   · exact s69_6 hX hY oX oY hA hB
   · by_cases hz:Y.2.1=0
     · exact s69_7z hX hY oX oY hA hB hz
     · exact s69_7 hX hY oX oY hA hB hz
   · by_cases hz:Y.2.1=0
     · exact s69_8z hX hY oX oY hA hB hz
     · exact s69_8 hX hY oX oY hA hB hz
   · by_cases hm:Y.2.1=minI
     · exact s69_10m hX hY oX oY hA hB hm
     · exact s69_10 hX hY oX oY hA hB hm
 · exact s69_eq hX hY oX oY hk hAB ⟨h1,h2⟩
 · exact s69_cmp hX hY oX oY hk hAB hA
end
theorem c56 {c:FuncId}{x:T}{vs:List WV}{nm:ByteArray}(h:H)(hx:Slice x (vs.map varW))(hs:vs.length≤2000000)(hm:md c 56 = .pure):callD (cx.at c) (call cx prim) 56 [.t x,.t (.str nm)] h=some (.tup [.t (getT vs nm),.t (.bool (getW vs nm).isSome)],h):=by
 obtain ⟨h',q⟩:=s56 (nm:=nm) hx hs;exact pureT cb56 hm q (by unfold getT; cases getW vs nm<;>rfl) rfl
abbrev a38 (ps:List PT)(vs:T)(i:Int):List D:=[.t (.slice (ps.map prP)),.t vs,.t (iv i)]
section
variable {ps:List PT}{vs:T}(hc':vs.cells=[vs]){i:Nat}{x:PT}(hx:ps[i]?=some x)
include hc' hx
theorem s38v (hk:x.k=1):∃ h',call cx prim 38 (a38 ps vs i) .empty=some (.tup [.t (val3 (partV x)),.t (iv 0)],h'):=by
 rw [call_run (cx:=cx) rfl Tryz.func38 ok38 nd38 rfl (lbe rfl) rfl rfl];have hg:(ps.map prP)[i]?=some (prP x):=by rw [List.getElem?_map,hx]; rfl
 simp -implicitDefEqProofs (disch:=omega) [-List.getElem?_map,hg,hk]
theorem s38n {vl:List WV}(hv:Slice vs (vl.map varW))(hl:vl.length≤2000000)(hk:x.k=2):∃ h',call cx prim 38 (a38 ps vs i) .empty=some (.tup [.t (val3 (getV vl x.nm)),.t (iv 0)],h'):=by
 rw [call_run (cx:=cx) rfl Tryz.func38 ok38 nd38 rfl (lbe rfl) rfl rfl];have hg:(ps.map prP)[i]?=some (prP x):=by rw [List.getElem?_map,hx]; rfl
 have q1:=fun h=>c56 (c:=38) (nm:=x.nm) h hv hl rfl
 rw [getT_V] at q1;simp -implicitDefEqProofs (disch:=omega) [-List.getElem?_map,hg,hk,q1]
section
variable {A:V3}{eA:Int}(hA:∀ h,callD (cx.at 38) (call cx prim) 38 (a38 ps vs x.a) h=some (.tup [.t (val3 A),.t (iv eA)],h))
include hA
theorem s38e (hk:3≤x.k)(he:eA≠0):∃ h',call cx prim 38 (a38 ps vs i) .empty=some (.tup [.t (val3 z3),.t (iv eA)],h'):=by
 rw [call_run (cx:=cx) rfl Tryz.func38 ok38 nd38 rfl (lbe rfl) rfl rfl];have hg:(ps.map prP)[i]?=some (prP x):=by rw [List.getElem?_map,hx]; rfl
 have e1:eqI eA 0=false:=eqI_false he;simp -implicitDefEqProofs (disch:=omega) [-List.getElem?_map,hg,hk,hA,e1]
theorem s38o (hk:x.k=3∨x.k=4∨x.k=5)(he:eA=0)(oA:OKV A):∃ h',call cx prim 38 (a38 ps vs i) .empty=some (.tup [.t (val3 (oneV x.k A.2.1 A.2.2).1),.t (iv (oneV x.k A.2.1 A.2.2).2)],h'):=by
 rw [call_run (cx:=cx) rfl Tryz.func38 ok38 nd38 rfl (lbe rfl) rfl rfl];have hg:(ps.map prP)[i]?=some (prP x):=by rw [List.getElem?_map,hx]; rfl
 have q1:=fun b h=>c68 (c:=38) b h rfl
 subst he;obtain ⟨o1,o2,o3⟩:=oA;obtain ⟨A1,A2,A3⟩:=A;simp only at o1 o2 o3 hA ⊢;unfold oneV;rcases hk with hk|hk|hk
 · by_cases hm:A2 = -9223372036854775808
   · subst hm
     simp -implicitDefEqProofs (disch:=omega) [-List.getElem?_map,hg,hk,hA]
   · have em:eqI A2 (-9223372036854775808)=false:=eqI_false hm
     simp -implicitDefEqProofs (disch:=omega) [-List.getElem?_map,hg,hk,hA,em,hm]
 · by_cases hm:A2=0
   · subst hm
     simp -implicitDefEqProofs (disch:=omega) [-List.getElem?_map,hg,hk,hA,q1]
   · have em:eqI A2 0=false:=eqI_false hm
     simp -implicitDefEqProofs (disch:=omega) [-List.getElem?_map,hg,hk,hA,q1,em,hm]
 · simp -implicitDefEqProofs (disch:=omega) [-List.getElem?_map,hg,hk,hA]
theorem s38s (hk:(x.k=17∧A.2.1=0)∨(x.k=18∧A.2.1=1))(he:eA=0):∃ h',call cx prim 38 (a38 ps vs i) .empty=some (.tup [.t (val3 A),.t (iv 0)],h'):=by
 rw [call_run (cx:=cx) rfl Tryz.func38 ok38 nd38 rfl (lbe rfl) rfl rfl];have hg:(ps.map prP)[i]?=some (prP x):=by rw [List.getElem?_map,hx]; rfl
 subst he;obtain ⟨A1,A2,A3⟩:=A;simp only at hk hA ⊢;rcases hk with ⟨hk,rfl⟩|⟨hk,rfl⟩
 · simp -implicitDefEqProofs (disch:=omega) [-List.getElem?_map,hg,hk,hA]
 · simp -implicitDefEqProofs (disch:=omega) [-List.getElem?_map,hg,hk,hA]
theorem s38c (hk:x.k=19)(h0:A.2.1=0)(he:eA=0){C:V3}{eC:Int}(hC:∀ h,callD (cx.at 38) (call cx prim) 38 (a38 ps vs x.c) h=some (.tup [.t (val3 C),.t (iv eC)],h)):∃ h',call cx prim 38 (a38 ps vs i) .empty=some (.tup [.t (val3 C),.t (iv eC)],h'):=by
 rw [call_run (cx:=cx) rfl Tryz.func38 ok38 nd38 rfl (lbe rfl) rfl rfl];have hg:(ps.map prP)[i]?=some (prP x):=by rw [List.getElem?_map,hx]; rfl
 subst he;obtain ⟨A1,A2,A3⟩:=A;simp only at h0 hA ⊢;subst h0;simp -implicitDefEqProofs (disch:=omega) [-List.getElem?_map,hg,hk,hA,hC]
variable {B:V3}{eB:Int}(hB:∀ h,callD (cx.at 38) (call cx prim) 38 (a38 ps vs x.b) h=some (.tup [.t (val3 B),.t (iv eB)],h))
include hB
theorem s38b (hk:(x.k=17∧A.2.1=1)∨(x.k=18∧A.2.1=0)∨(x.k=19∧A.2.1=1))(he:eA=0):∃ h',call cx prim 38 (a38 ps vs i) .empty=some (.tup [.t (val3 B),.t (iv eB)],h'):=by
 rw [call_run (cx:=cx) rfl Tryz.func38 ok38 nd38 rfl (lbe rfl) rfl rfl];have hg:(ps.map prP)[i]?=some (prP x):=by rw [List.getElem?_map,hx]; rfl
 subst he;obtain ⟨A1,A2,A3⟩:=A;simp only at hk hA ⊢;rcases hk with ⟨hk,rfl⟩|⟨hk,rfl⟩|⟨hk,rfl⟩<;>cases e:eqI eB 0 <;>
 simp -implicitDefEqProofs (disch:=omega) [-List.getElem?_map,hg,hk,hA,hB,e]
theorem s38eb (hk:6≤x.k∧x.k≤16)(he:eA=0)(he2:eB≠0):∃ h',call cx prim 38 (a38 ps vs i) .empty=some (.tup [.t (val3 B),.t (iv eB)],h'):=by
 rw [call_run (cx:=cx) rfl Tryz.func38 ok38 nd38 rfl (lbe rfl) rfl rfl];have hg:(ps.map prP)[i]?=some (prP x):=by rw [List.getElem?_map,hx]; rfl
 subst he;have e1:eqI eB 0=false:=eqI_false he2;simp -implicitDefEqProofs (disch:=omega) [-List.getElem?_map,hg,hk,hA,hB,e1]
theorem s38t (hk:6≤x.k∧x.k≤16)(he:eA=0)(he2:eB=0){R:V3}{e:Int}(hT:∀ h,callD (cx.at 38) (call cx prim) 69 [.t (iv x.k),.t (val3 A),.t (val3 B)] h=some (.tup [.t (val3 R),.t (iv e)],h)):∃ h',call cx prim 38 (a38 ps vs i) .empty=some (.tup [.t (val3 R),.t (iv e)],h'):=by
 rw [call_run (cx:=cx) rfl Tryz.func38 ok38 nd38 rfl (lbe rfl) rfl rfl];have hg:(ps.map prP)[i]?=some (prP x):=by rw [List.getElem?_map,hx]; rfl
 subst he he2;simp -implicitDefEqProofs (disch:=omega) [-List.getElem?_map,hg,hk,hA,hB,hT]
end
end
end Go.Proofs.YtaldobgfbkllfaaGreatDoor

namespace Go.Proofs.YtaldobgfbkllfaaGreatDoor
open Vai
set_option maxHeartbeats 0
set_option maxRecDepth 100000
theorem kdS_congr {x:PT}{ds:List DV}{K K':Int→Int}(h:∀ j∈usesS x,K j=K' j):kdS x ds K=kdS x ds K':=by
 obtain ⟨ua,ub,uc⟩:=uses_k (x:=x);have ha:3≤x.k→x.k≤19→K x.a=K' x.a:=fun h1 h2=>h _ (ua h1 h2)
 have hb:6≤x.k→x.k≤19→K x.b=K' x.b:=fun h1 h2=>h _ (ub h1 h2)
 have hc:x.k=19→K x.c=K' x.c:=fun h1=>h _ (uc h1)
 unfold kdS;by_cases e0:x.k=1
 · rw [if_pos e0,if_pos e0]
 rw [if_neg e0,if_neg e0];by_cases e1:x.k=2
 · rw [if_pos e1,if_pos e1]
 rw [if_neg e1,if_neg e1];by_cases e2:x.k=3
 · rw [if_pos e2,if_pos e2,ha (by omega) (by omega)]
 rw [if_neg e2,if_neg e2];by_cases e3:x.k=4
 · rw [if_pos e3,if_pos e3,ha (by omega) (by omega)]
 rw [if_neg e3,if_neg e3];by_cases e4:x.k=5
 · rw [if_pos e4,if_pos e4,ha (by omega) (by omega)]
 rw [if_neg e4,if_neg e4];by_cases e5:x.k=6∨x.k=7∨x.k=8∨x.k=10
 · rw [if_pos e5,if_pos e5,ha (by omega) (by omega),hb (by omega) (by omega)]
 rw [if_neg e5,if_neg e5];by_cases e6:x.k=9
 · rw [if_pos e6,if_pos e6,ha (by omega) (by omega),hb (by omega) (by omega)]
 rw [if_neg e6,if_neg e6];by_cases e7:x.k=11∨x.k=12
 · rw [if_pos e7,if_pos e7,ha (by omega) (by omega),hb (by omega) (by omega)]
 rw [if_neg e7,if_neg e7];by_cases e8:x.k=13∨x.k=14∨x.k=15∨x.k=16
 · rw [if_pos e8,if_pos e8,ha (by omega) (by omega),hb (by omega) (by omega)]
 rw [if_neg e8,if_neg e8];by_cases e9:x.k=17∨x.k=18
 · rw [if_pos e9,if_pos e9,ha (by omega) (by omega),hb (by omega) (by omega)]
 rw [if_neg e9,if_neg e9];by_cases e10:x.k=19
 · rw [if_pos e10,if_pos e10,ha (by omega) (by omega),hb (by omega) (by omega),hc (by omega)]
 rw [if_neg e10,if_neg e10]
theorem kd_at {ps:List PT}{ds:List DV}(hg:goodK ps ds ps.length=true){i:Nat}{x:PT}(hx:ps[i]?=some x) :
  getK (kindsL ps ds ps.length) i=kdS x ds (getK (kindsL ps ds ps.length))∧getK (kindsL ps ds ps.length) i≠0∧sidesB x i=true:=by
 have hlt:i<ps.length:=by
  rcases Nat.lt_or_ge i ps.length with h1|h1
  · exact h1
  · rw [List.getElem?_eq_none h1] at hx; cases hx
 obtain ⟨h1,h2⟩:=(goodK_iff (Nat.le_refl _)).1 hg;have hs:=h1 i x hlt hx;refine ⟨?_,h2 i hlt,hs⟩;rw [getK_kindsL hlt hx];refine kdS_congr fun j hj=>?_
 have hj':=allIn_mem (i:=i) hs hj;unfold getK;rw [kindsL_get (i:=i) (by omega),kindsL_get (i:=ps.length) (by omega)]
theorem kd_inv {x:PT}{ds:List DV}{K:Int→Int}{r:Int}(h:kdS x ds K=r)(hr:r≠0) :
   (x.k=1∧mayV x.vk x.vn x.s=true∧r=x.vk)∨(x.k=2∧r=declK ds x.nm∧1≤r∧r≤3)∨(x.k=3∧K x.a=1∧r=1)∨(x.k=4∧K x.a=2∧r=2)∨(x.k=5∧K x.a=3∧r=1) ∨
   ((x.k=6∨x.k=7∨x.k=8∨x.k=10)∧K x.a=1∧K x.b=1∧r=1)∨(x.k=9∧K x.a=K x.b∧(K x.a=1∨K x.a=3)∧r=K x.a) ∨
   ((x.k=11∨x.k=12)∧K x.a=K x.b∧0<K x.a∧r=2)∨((x.k=13∨x.k=14∨x.k=15∨x.k=16)∧K x.a=K x.b∧(K x.a=1∨K x.a=3)∧r=2) ∨
   ((x.k=17∨x.k=18)∧K x.a=2∧K x.b=2∧r=2)∨(x.k=19∧K x.a=2∧K x.b=K x.c∧r=K x.b):=by
 unfold kdS at h;by_cases e0:x.k=1
 · rw [if_pos e0] at h
   split at h
   · rename_i hc
     refine .inl ?_
     first|exact ⟨e0,hc,h.symm⟩|exact ⟨e0,hc.1,hc.2,h.symm⟩
   · exact absurd h.symm hr
 rw [if_neg e0] at h;by_cases e1:x.k=2
 · rw [if_pos e1] at h
   unfold kind3 at h;split at h
   · rename_i hc; refine .inr (.inl ⟨e1,h.symm,by omega,by omega⟩)
   · exact absurd h.symm hr
 rw [if_neg e1] at h;by_cases e2:x.k=3
 · rw [if_pos e2] at h
   split at h
   · rename_i hc
     refine .inr (.inr (.inl ?_))
     first|exact ⟨e2,hc,h.symm⟩|exact ⟨e2,hc.1,hc.2,h.symm⟩
   · exact absurd h.symm hr
 rw [if_neg e2] at h;by_cases e3:x.k=4
 · rw [if_pos e3] at h
   split at h
   · rename_i hc
     refine .inr (.inr (.inr (.inl ?_)))
     first|exact ⟨e3,hc,h.symm⟩|exact ⟨e3,hc.1,hc.2,h.symm⟩
   · exact absurd h.symm hr
 rw [if_neg e3] at h;by_cases e4:x.k=5
 · rw [if_pos e4] at h
   split at h
   · rename_i hc
     refine .inr (.inr (.inr (.inr (.inl ?_))))
     first|exact ⟨e4,hc,h.symm⟩|exact ⟨e4,hc.1,hc.2,h.symm⟩
   · exact absurd h.symm hr
 rw [if_neg e4] at h;by_cases e5:x.k=6∨x.k=7∨x.k=8∨x.k=10
 · rw [if_pos e5] at h
   split at h
   · rename_i hc
     refine .inr (.inr (.inr (.inr (.inr (.inl ?_)))))
     first|exact ⟨e5,hc,h.symm⟩|exact ⟨e5,hc.1,hc.2,h.symm⟩
   · exact absurd h.symm hr
 rw [if_neg e5] at h;by_cases e6:x.k=9
 · rw [if_pos e6] at h
   split at h
   · rename_i hc
     refine .inr (.inr (.inr (.inr (.inr (.inr (.inl ?_))))))
     first|exact ⟨e6,hc,h.symm⟩|exact ⟨e6,hc.1,hc.2,h.symm⟩
   · exact absurd h.symm hr
 rw [if_neg e6] at h;by_cases e7:x.k=11∨x.k=12
 · rw [if_pos e7] at h
   split at h
   · rename_i hc
     refine .inr (.inr (.inr (.inr (.inr (.inr (.inr (.inl ?_)))))))
     first|exact ⟨e7,hc,h.symm⟩|exact ⟨e7,hc.1,hc.2,h.symm⟩
   · exact absurd h.symm hr
 rw [if_neg e7] at h;by_cases e8:x.k=13∨x.k=14∨x.k=15∨x.k=16
 · rw [if_pos e8] at h
   split at h
   · rename_i hc
     refine .inr (.inr (.inr (.inr (.inr (.inr (.inr (.inr (.inl ?_))))))))
     first|exact ⟨e8,hc,h.symm⟩|exact ⟨e8,hc.1,hc.2,h.symm⟩
   · exact absurd h.symm hr
 rw [if_neg e8] at h;by_cases e9:x.k=17∨x.k=18
 · rw [if_pos e9] at h
   split at h
   · rename_i hc
     refine .inr (.inr (.inr (.inr (.inr (.inr (.inr (.inr (.inr (.inl ?_)))))))))
     first|exact ⟨e9,hc,h.symm⟩|exact ⟨e9,hc.1,hc.2,h.symm⟩
   · exact absurd h.symm hr
 rw [if_neg e9] at h;by_cases e10:x.k=19
 · rw [if_pos e10] at h
   split at h
   · rename_i hc
     refine .inr (.inr (.inr (.inr (.inr (.inr (.inr (.inr (.inr (.inr (?_))))))))))
     first|exact ⟨e10,hc,h.symm⟩|exact ⟨e10,hc.1,hc.2,h.symm⟩
   · exact absurd h.symm hr
 rw [if_neg e10] at h;exact absurd h.symm hr
end Go.Proofs.YtaldobgfbkllfaaGreatDoor

namespace Go.Proofs.YtaldobgfbkllfaaGreatDoor
open Vai
variable [Gl]
set_option maxHeartbeats 0
set_option maxRecDepth 100000
theorem varsA_at {vs:List WV}:∀ (n k:Nat),n=vs.length-k→varsA vs k=true→∀ i,k≤i→i<vs.length→okAt vs i=true
 | 0,k,hn,h,i,h1,h2=>by omega
 | n+1,k,hn,h,i,h1,h2=>by
  rw [varsA_step (by omega),Bool.and_eq_true] at h
  rcases Nat.lt_or_ge k i with h3|h3
  · exact varsA_at n (k+1) (by omega) h.2 i h3 h2
  · obtain rfl:i=k:=by omega
    exact h.1
theorem vars_may {vl:List WV}(h:varsB vl=true):∀ v∈vl,mayV v.2.1 v.2.2.1 v.2.2.2=true:=fun v hv=>by
 obtain ⟨i,hi⟩:=List.mem_iff_getElem?.1 hv;have hlt:i<vl.length:=by
  rcases Nat.lt_or_ge i vl.length with h1|h1
  · exact h1
  · rw [List.getElem?_eq_none h1] at hi; cases hi
 unfold varsB at h;rw [Bool.and_eq_true] at h;have:=varsA_at vl.length 0 (by omega) h.1 i (Nat.zero_le _) hlt
 unfold okAt at this;rw [hi] at this;simp only [Bool.and_eq_true] at this;exact this.1.2
theorem may_TV {k n:Int}{s:ByteArray}(h:mayV k n s=true):TV k (k,n,s):=by
 unfold mayV at h;unfold TV;split at h
 · rename_i e; subst e
   simp only [eqS,decide_eq_true_eq] at h;exact ⟨rfl,fun _=>h,fun h=>by omega,fun h=>by omega⟩
 · split at h
   · rename_i e; subst e
     simp only [Bool.and_eq_true,Bool.or_eq_true,eqS,eqI,decide_eq_true_eq] at h;exact ⟨rfl,fun h=>by omega,fun _=>h,fun h=>by omega⟩
   · split at h
     · rename_i e; subst e
       simp only [Bool.and_eq_true,eqI,decide_eq_true_eq] at h;exact ⟨rfl,fun h=>by omega,fun h=>by omega,fun _=>h.1.1⟩
     · cases h
theorem decl_var (vl:List WV)(nm:ByteArray):declF (vl.map dcl) nm=(getW vl nm).map dcl:=by
 unfold declF getW
 induction vl with
 | nil=>rfl
 | cons v vl ih =>
  simp only [List.map_cons,List.find?_cons]
  cases eqS v.1 nm with
  | true=>rfl
  | false=>exact ih
theorem var_TV {vl:List WV}(h:varsB vl=true){nm:ByteArray}{r:Int}(hr:r=declK (vl.map dcl) nm)(h1:1≤r):TV r (getV vl nm):=by
 unfold declK at hr;rw [decl_var] at hr;unfold getV
 cases hw:getW vl nm with
 | none=>rw [hw] at hr; simp at hr; omega
 | some w =>
  rw [hw] at hr;simp only [Option.map_some] at hr;subst hr;exact may_TV (vars_may h w (List.mem_of_find?_eq_some hw))
theorem one_TV {k:Int}{n:Int}{s:ByteArray}{r:Int}(hk:(k=3∧r=1)∨(k=4∧r=2)∨(k=5∧r=1))(h0:(oneV k n s).2=0):TV r (oneV k n s).1:=by
 unfold oneV at h0 ⊢;rcases hk with ⟨rfl,rfl⟩|⟨rfl,rfl⟩|⟨rfl,rfl⟩
 · rw [if_neg (by decide),if_neg (by decide)] at h0 ⊢
   split at h0
   · cases h0
   · rename_i hn
     rw [if_neg hn];exact ⟨rfl,fun _=>rfl,fun h=>by omega,fun h=>by omega⟩
 · rw [if_pos rfl]
   refine ⟨rfl,fun h=>by omega,fun _=>⟨rfl,?_⟩,fun h=>by omega⟩
   show (if n=0 then (1:Int) else 0)=0∨(if n=0 then (1:Int) else 0)=1
   split<;>simp
 · rw [if_neg (by decide),if_pos rfl]
   exact ⟨rfl,fun _=>rfl,fun h=>by omega,fun h=>by omega⟩
theorem one_z {k n:Int}{s:ByteArray}(h0:(oneV k n s).2≠0):(oneV k n s).1=z3:=by
 unfold oneV at h0 ⊢;split at h0
 · exact absurd rfl h0
 · split at h0
   · exact absurd rfl h0
   · split at h0
     · rename_i h1 h2 h3; rw [if_neg h1,if_neg h2,if_pos h3]
     · exact absurd rfl h0
theorem two_z {k:Int}{X Y:V3}(h0:(twoV k X Y).2≠0):(twoV k X Y).1=z3:=by
 unfold twoV at h0 ⊢;split
 · rename_i h1; rw [if_pos h1] at h0
   split
   · rename_i h2; rw [if_pos h2] at h0
     split
     · rfl
     · rename_i h3; rw [if_neg h3] at h0; exact absurd rfl h0
   · rename_i h2; rw [if_neg h2] at h0
     split
     · rfl
     · rename_i h3; rw [if_neg h3] at h0
       split
       · rename_i h4; rw [if_pos h4] at h0; exact absurd rfl h0
       · rfl
 · rename_i h1; rw [if_neg h1] at h0; exact absurd rfl h0
theorem two_TV {k:Int}{X Y:V3}{A B r:Int}(hX:TV A X)(hk:((k=6∨k=7∨k=8∨k=10)∧A=1∧r=1)∨(k=9∧(A=1∨A=3)∧r=A)∨((k=11∨k=12∨k=13∨k=14∨k=15∨k=16)∧r=2))(h0:(twoV k X Y).2=0):TV r (twoV k X Y).1:=by
 have hx:=hX.1;unfold twoV at h0 ⊢;split
 · rename_i h1; rw [if_pos h1] at h0
   split
   · rename_i h2; rw [if_pos h2] at h0
     split
     · rename_i h3; rw [if_pos h3] at h0; exact absurd h0 (by decide)
     · have:r=3:=by omega
       subst this;exact ⟨rfl,fun h=>by omega,fun h=>by omega,fun _=>rfl⟩
   · rename_i h2; rw [if_neg h2] at h0
     split
     · rename_i h3; rw [if_pos h3] at h0; exact absurd h0 (by decide)
     · rename_i h3; rw [if_neg h3] at h0
       split
       · have:r=1:=by omega
         subst this;exact ⟨rfl,fun _=>rfl,fun h=>by omega,fun h=>by omega⟩
       · rename_i h4; rw [if_neg h4] at h0; exact absurd h0 (by decide)
 · rename_i h1
   have:r=2:=by omega
   subst this;refine ⟨rfl,fun h=>by omega,fun _=>⟨rfl,?_⟩,fun h=>by omega⟩
   simp only;split<;>simp
theorem c38 {c:FuncId}{ps:List PT}{vs:T}{i:Int}{v:V3}{e:Int}(hm:md c 38 = .pure)(hq:∃ h',call cx prim 38 (a38 ps vs i) .empty=some (.tup [.t (val3 v),.t (iv e)],h'))(h:H):callD (cx.at c) (call cx prim) 38 (a38 ps vs i) h=some (.tup [.t (val3 v),.t (iv e)],h):=by
 obtain ⟨h',q⟩:=hq;exact pureT cb38 hm q rfl rfl
theorem kd_facts {x:PT}{ds:List DV}{K:Int→Int}{r:Int}(h:kdS x ds K=r)(hr:r≠0)(hK:3≤x.k→x.k≤19→K x.a≤3) :
   (1≤x.k∧x.k≤19)∧(x.k=1→mayV x.vk x.vn x.s=true∧r=x.vk)∧(x.k=2→r=declK ds x.nm∧1≤r)∧(x.k=3∨x.k=4∨x.k=5→(x.k=3∧r=1)∨(x.k=4∧r=2)∨(x.k=5∧r=1)) ∧
   (x.k=17∨x.k=18→K x.a=2∧K x.b=2∧r=2)∧(x.k=19→K x.a=2∧K x.b=K x.c∧r=K x.b) ∧
   (6≤x.k∧x.k≤16→Two x.k (K x.a) (K x.b)∧(((x.k=6∨x.k=7∨x.k=8∨x.k=10)∧K x.a=1∧r=1)∨(x.k=9∧(K x.a=1∨K x.a=3)∧r=K x.a)∨((x.k=11∨x.k=12∨x.k=13∨x.k=14∨x.k=15∨x.k=16)∧r=2))):=by
 have inv:=kd_inv h hr;clear h hr;unfold Two;generalize mayV x.vk x.vn x.s=M at *;generalize declK ds x.nm=D at *;generalize K x.a=A at *;generalize K x.b=B at *;generalize K x.c=C at *;generalize x.k=k at *;generalize x.vk=vk at *;clear ds K x;rcases inv with h|h|h|h|h|h|h|h|h|h|h
 · obtain ⟨h1,h2,h3⟩:=h
   exact ⟨by omega,fun _=>⟨h2,h3⟩,fun h=>by omega,fun h=>by omega,fun h=>by omega,fun h=>by omega,fun h=>by omega⟩
 all_goals exact ⟨by omega,fun h=>by omega,fun h=>by omega,fun h=>by omega,fun h=>by omega,fun h=>by omega,fun h=>by omega⟩
theorem of_ref {ps:List PT}{vs:T}{vl:List WV}(hv:Slice vs (vl.map varW))(hl:vl.length≤2000000)(hb:varsB vl=true)(hp:PartsOK ps vl)(hg:goodK ps (vl.map dcl) ps.length=true):∀ (f i:Nat),i<f→i<ps.length →
  (∃ h',call cx prim 38 (a38 ps vs i) .empty=some (.tup [.t (val3 (evF ps vl f i).1),.t (iv (evF ps vl f i).2)],h'))∧((evF ps vl f i).2=0→TV (getK (kindsL ps (vl.map dcl) ps.length) i) (evF ps vl f i).1)∧((evF ps vl f i).2≠0→(evF ps vl f i).1=z3)
 | 0,i,h,_=>absurd h (Nat.not_lt_zero _)
 | f+1,i,hi,hlt=>by
  obtain ⟨x,hx⟩:∃ x,ps[i]?=some x:=⟨ps[i],by simp [hlt]⟩
  have hc':vs.cells=[vs]:=hv.cells1;obtain ⟨hkd,hne,hsd⟩:=kd_at hg hx;have hall:allIn (usesS x) i=true:=hsd;obtain ⟨ua,ub,uc⟩:=uses_k (x:=x);have side:∀ j:Int,j∈usesS x→(∃ h',call cx prim 38 (a38 ps vs j) .empty=some (.tup [.t (val3 (evF ps vl f j).1),.t (iv (evF ps vl f j).2)],h'))∧((evF ps vl f j).2=0→TV (getK (kindsL ps (vl.map dcl) ps.length) j) (evF ps vl f j).1)∧((evF ps vl f j).2≠0→(evF ps vl f j).1=z3):=fun j hj=>by
    have hj':=allIn_mem hall hj;have:=of_ref hv hl hb hp hg f j.toNat (by omega) (by omega)
    rw [toNat_cast hj'.1] at this;exact this
  have okf:=evF_ok hp f;have hle3:3≤x.k→x.k≤19→getK (kindsL ps (vl.map dcl) ps.length) x.a≤3:=fun h1 h2=>by
    have hja:=allIn_mem hall (ua h1 h2);exact (good_range hg x.a hja.1 (by omega)).2
  obtain ⟨f0,f1,f2,f3,f17,f19,ft⟩:=kd_facts hkd.symm hne hle3;clear hle3 hkd hne;rw [evF_at hx];generalize getK (kindsL ps (vl.map dcl) ps.length) i=r at *;generalize hKd:getK (kindsL ps (vl.map dcl) ps.length)=K at *;generalize evF ps vl f=E at *;unfold evB;by_cases e1:x.k=1
  · rw [if_pos e1]
    refine ⟨s38v hc' hx e1,fun _=>?_,fun h=>absurd rfl h⟩
    rw [(f1 e1).2]; exact may_TV (f1 e1).1
  rw [if_neg e1];by_cases e2:x.k=2
  · rw [if_pos e2]
    refine ⟨s38n hc' hx hv hl e2,fun _=>?_,fun h=>absurd rfl h⟩
    exact var_TV hb (f2 e2).1 (f2 e2).2
  rw [if_neg e2];have k3:3≤x.k∧x.k≤19:=by clear f1 f2 f3 f17 f19 ft; omega
  obtain ⟨hA,tA,zA⟩:=side x.a (ua k3.1 k3.2);have okA:=okf x.a;have cA:=c38 (c:=38) rfl hA;generalize E x.a=A at *;obtain ⟨A,eA⟩:=A;simp only at hA tA zA okA cA ⊢;by_cases hE:eA≠0
  · rw [if_pos hE]
    exact ⟨s38e hc' hx cA k3.1 hE,fun h=>absurd h hE,fun _=>rfl⟩
  rw [if_neg hE];obtain rfl:eA=0:=by clear f1 f2 f3 f17 f19 ft; omega
  have tA:=tA rfl;by_cases e3:x.k=3∨x.k=4∨x.k=5
  · rw [if_pos e3]
    exact ⟨s38o hc' hx cA e3 rfl okA,fun h0=>one_TV (f3 e3) h0,fun h0=>one_z h0⟩
  rw [if_neg e3];have k6:6≤x.k:=by clear f1 f2 f3 f17 f19 ft; omega
  obtain ⟨hB,tB,zB⟩:=side x.b (ub k6 k3.2);have okB:=okf x.b;have cB:=c38 (c:=38) rfl hB;generalize E x.b=B at *;obtain ⟨B,eB⟩:=B;simp only at hB tB zB okB cB ⊢;by_cases e17:x.k=17
  · rw [if_pos e17]
    have hkk:K x.a=2∧K x.b=2∧r=2:=f17 (.inl e17);rw [hkk.1] at tA;have h01:A.2.1=0∨A.2.1=1:=(tA.2.2.1 rfl).2;by_cases h1:A.2.1=1
    · rw [if_pos h1]
      refine ⟨s38b hc' hx cA cB (.inl ⟨e17,h1⟩) rfl,fun h=>?_,zB⟩
      rw [hkk.2.2,←hkk.2.1]; exact tB h
    · rw [if_neg h1]
      refine ⟨s38s hc' hx cA (.inl ⟨e17,h01.resolve_right h1⟩) rfl,fun _=>?_,fun h=>absurd rfl h⟩
      rw [hkk.2.2]; exact tA
  rw [if_neg e17];by_cases e18:x.k=18
  · rw [if_pos e18]
    have hkk:K x.a=2∧K x.b=2∧r=2:=f17 (.inr e18);rw [hkk.1] at tA;have h01:A.2.1=0∨A.2.1=1:=(tA.2.2.1 rfl).2;by_cases h1:A.2.1=1
    · rw [if_pos h1]
      refine ⟨s38s hc' hx cA (.inr ⟨e18,h1⟩) rfl,fun _=>?_,fun h=>absurd rfl h⟩
      rw [hkk.2.2]; exact tA
    · rw [if_neg h1]
      refine ⟨s38b hc' hx cA cB (.inr (.inl ⟨e18,h01.resolve_right h1⟩)) rfl,fun h=>?_,zB⟩
      rw [hkk.2.2,←hkk.2.1]; exact tB h
  rw [if_neg e18];by_cases e19:x.k=19
  · rw [if_pos e19]
    obtain ⟨hC,tC,zC⟩:=side x.c (uc e19);have cC:=c38 (c:=38) rfl hC;generalize E x.c=C at *;obtain ⟨C,eC⟩:=C;simp only at hC tC zC cC ⊢;have hkk:K x.a=2∧K x.b=K x.c∧r=K x.b:=f19 e19;rw [hkk.1] at tA;have h01:A.2.1=0∨A.2.1=1:=(tA.2.2.1 rfl).2;by_cases h1:A.2.1=1
    · rw [if_pos h1]
      refine ⟨s38b hc' hx cA cB (.inr (.inr ⟨e19,h1⟩)) rfl,fun h=>?_,zB⟩
      rw [hkk.2.2]; exact tB h
    · rw [if_neg h1]
      refine ⟨s38c hc' hx cA e19 (h01.resolve_right h1) rfl cC,fun h=>?_,zC⟩
      rw [hkk.2.2,hkk.2.1]; exact tC h
  rw [if_neg e19];have hk:6≤x.k∧x.k≤16:=by clear f1 f2 f3 f17 f19 ft; omega
  by_cases hE2:eB≠0
  · rw [if_pos hE2]
    refine ⟨?_,fun h=>absurd h hE2,fun _=>rfl⟩
    have:=s38eb hc' hx cA cB hk rfl hE2;rw [zB hE2] at this;exact this
  rw [if_neg hE2];obtain rfl:eB=0:=by clear f1 f2 f3 f17 f19 ft; omega
  have tB:=tB rfl;obtain ⟨h2,h3⟩:=ft hk;obtain ⟨h',q⟩:=s69 tA tB okA okB h2;exact ⟨s38t hc' hx cA cB hk rfl rfl fun h=>pureT cb69 rfl q rfl rfl,fun h0=>two_TV (B:=K x.b) tA h3 h0,fun h0=>two_z h0⟩
def evV (ps:List PT)(vl:List WV):V3 × Int:=if varsB vl=false then (z3,2) else if kindS ps (vl.map dcl)=0 then (z3,2) else evF ps vl ps.length ((ps.length:Int)-1)
theorem kindS_good {ps:List PT}{ds:List DV}(h:kindS ps ds≠0):0<ps.length∧ps.length≤256∧goodK ps ds ps.length=true∧kindS ps ds=getK (kindsL ps ds ps.length) ((ps.length:Int)-1):=by
 unfold kindS at h ⊢;split at h
 · exact absurd rfl h
 · rename_i h1
   rw [if_neg h1];split at h
   · exact absurd rfl h
   · rename_i h2
     rw [if_neg h2];split at h
     · exact absurd rfl h
     · rename_i h3
       rw [if_neg h3];refine ⟨by omega,by omega,?_,rfl⟩
       cases hg:goodK ps ds ps.length with
       | true=>rfl
       | false=>exact absurd hg h2
theorem good_sides {ps:List PT}{ds:List DV}(hg:goodK ps ds ps.length=true):Sides ps:=fun i x hx=>by
 obtain ⟨h1,h2,h3⟩:=kd_at hg hx;have hall:allIn (usesS x) i=true:=h3;obtain ⟨ua,ub,uc⟩:=uses_k (x:=x);have hk:1≤x.k∧x.k≤19:=by
  have:=kd_inv h1.symm h2;clear h1 h2 h3 ua ub uc hall;omega
 exact ⟨hk.1,hk.2,fun h=>allIn_mem hall (ua h hk.2),fun h=>allIn_mem hall (ub h hk.2),fun h=>allIn_mem hall (uc h)⟩
theorem dclT (vl:List WV):vl.map dcT=(vl.map dcl).map decT:=by rw [List.map_map]; rfl
section
variable {ps:List PT}{l vs:T}{vl:List WV}(hlp:Slice l (ps.map prP))(hv:Slice vs (vl.map varW))(hs:smallW vl)(hp:PartsOK ps vl)(hln:ps.length≤2000000)
include hlp hv hs hp hln
theorem v15:∃ h',call cx prim 15 [.t l,.t vs] .empty=some (.tup [.t (val3 (evV ps vl).1),.t (iv (evV ps vl).2)],h'):=by
 have hps:∀ x∈ps,x.s.size≤1000000000:=fun x hx=>(hp.1 x hx).2.2
 unfold evV
 cases hb:varsB vl with
 | false=>rw [if_pos rfl]; exact s15b hv hs hb
 | true =>
  rw [if_neg (by decide)]
  obtain ⟨y,hy,q17⟩:=c17 hv hs.1;rw [dclT] at hy;have qK:=fun h=>c26 hlp hy (by simpa using hs.1) hps hln (c:=15) rfl h
  by_cases h0:kindS ps (vl.map dcl)=0
  · rw [if_pos h0]; exact s15k hv hs hb q17 qK h0
  · rw [if_neg h0]
    obtain ⟨k1,k2,k3,k4⟩:=kindS_good h0;have:l = .slice (ps.map prP):=hlp.eq_of_ne (fun e=>by simp at e; rw [e] at k1; simp at k1)
    subst this;exact s15 hv hs hb q17 qK h0 hp (good_sides k3) k1 (by omega)
end
end Go.Proofs.YtaldobgfbkllfaaGreatDoor

namespace Go.Proofs.YtaldobgfbkllfaaGreatDoor
open Vai P0
set_option maxHeartbeats 0
set_option maxRecDepth 100000
def AllR (Qt:Tk→Prop)(Q:PT→Prop)(ts:List Tk)(out:List PT):PR→Prop
 | .ok _ ts2 out2=>(∀ t∈ts,Qt t)→(∀ x∈out,Q x)→(∀ t∈ts2,Qt t)∧∀ x∈out2,Q x
 | .er _ _=>True
section
variable {Qt:Tk→Prop}{Q:PT→Prop}(hl:∀ t p,Qt t→leafA t=some p→Q p)(hn:∀ op a b c p,Q (nod op a b c p))
include hl hn
theorem rd_all {L:Int}{mo:Mo}{ts:List Tk}{d:Nat}{out:List PT}{r:PR}(h:Rd L mo ts d out r):AllR Qt Q ts out r:=by
 have sn:∀ {out:List PT} {op a b c p:Int},(∀ x∈out,Q x)→∀ x∈out ++ [nod op a b c p],Q x:=fun {out op a b c p} h x hx=>by
  rcases List.mem_append.1 hx with hx|hx
  · exact h x hx
  · simp at hx; subst hx; exact hn _ _ _ _ _
 induction h with
 | un_ok h1 h2 h3 ih=>exact fun a b=>have k:=ih (fun t ht=>a t (.tail _ ht)) b; ⟨k.1,sn k.2⟩
 | un_leaf h1 h2=>exact fun a b=>⟨fun t ht=>a t (.tail _ ht),fun x hx=>by
    rcases List.mem_append.1 hx with hx|hx
    · exact b x hx
    · simp at hx; subst hx; exact hl _ _ (a _ (.head _)) h2⟩
 | un_br h1 h2 h3 ih=>rename_i r; cases r<;>exact ih
 | len_ok h1 h2 h3 h4 h5 ih=>exact fun a b=>have k:=ih (fun t ht=>a t (.tail _ ht)) b; ⟨k.1,sn k.2⟩
 | br_ok h1 h2 h3 h4 ih=>exact fun a b=>have k:=ih (fun t ht=>a t (.tail _ ht)) b; ⟨fun t ht=>k.1 t (.tail _ ht),k.2⟩
 | lv_ok h1 h2 h3 ih1 ih2=>rename_i r; cases r<;>first|trivial|exact fun a b=>have k:=ih1 a b; ih2 k.1 k.2
 | ch_end h1=>exact fun a b=>⟨a,b⟩
 | ch_ok h1 h2 h3 h4 ih1 ih2=>rename_i r _ _ _; cases r<;>first|trivial|exact fun a b=>have k:=ih1 (fun t ht=>a t (.tail _ ht)) b; ih2 k.1 (sn k.2)
 | fo_no h1 h2 ih=>exact ih
 | fo_ok h1 h2 h3 h4 h5 h6 ih1 ih2 ih3=>exact fun a b =>
    have k:=ih1 a b;have k2:=ih2 (fun t ht=>k.1 t (.tail _ ht)) k.2
    have k3:=ih3 (fun t ht=>k2.1 t (.tail _ ht)) k2.2
    ⟨k3.1,sn k3.2⟩
 | _=>trivial
end
theorem leaf_okv {t:Tk}{p:PT}(ht:GoodT t)(h:leafA t=some p):OKV (partV p):=by
 have n0:noText.size≤1000000000:=by decide
 unfold leafA at h;split at h
 · rename_i h1
   cases h;rcases ht with ⟨_,_,n,h2,h3⟩|⟨h2,_⟩|⟨h2,_⟩|⟨h2,_⟩
   · exact ⟨by simp only; omega,by simp only; omega,n0⟩
   all_goals omega
 split at h
 · rename_i h1
   cases h;rcases ht with ⟨h2,_⟩|⟨_,_,_,h3⟩|⟨h2,_⟩|⟨h2,_⟩
   · omega
   · exact ⟨by simp [partV],by simp [partV],by simp only; omega⟩
   all_goals omega
 split at h
 · cases h
 split at h
 · cases h; exact ⟨by simp [partV],by simp [partV],n0⟩
 split at h
 · cases h; exact ⟨by simp [partV],by simp [partV],n0⟩
 split at h
 · cases h
 · cases h; exact ⟨by simp [partV],by simp [partV],n0⟩
theorem rd_okv {s:ByteArray}{L:Int}{v:Nat}{out:List PT}(hr:Rd L (.lv 6) (lexS s).1 0 [] (.ok v [] out)):∀ x∈out,OKV (partV x) :=
 (rd_all (Qt:=GoodT) (Q:=fun x=>OKV (partV x)) (fun t p=>leaf_okv) (fun _ _ _ _ _=>⟨by simp [partV,nod],by simp [partV,nod],by simp [partV,nod,noText,ByteArray.size]⟩) hr (lexS_good s) (fun x hx=>by cases hx)).2
def ParseBy (s:ByteArray)(ds:List DV)(r:PR)(ps:List PT)(p w:Int):Prop :=
 ((lexS s).2.2≠0∧ps=[]∧p=(lexS s).2.1∧w=(lexS s).2.2) ∨
 ((lexS s).2.2=0 ∧
  (((fauA r).2≠0∧ps=[]∧p=(fauA r).1∧w=(fauA r).2) ∨
   ∃ v out,r = .ok v [] out∧((goodK out ds out.length=true∧ps=out∧p=0∧w=0)∨(BadAt out ds p w∧ps=[]))))
theorem bad_fun {ps:List PT}{ds:List DV}{p w p' w':Int}(h:BadAt ps ds p w)(h':BadAt ps ds p' w'):p=p'∧w=w':=by
 obtain ⟨k,x,a1,a2,a3,rfl,rfl⟩:=h;obtain ⟨k',x',b1,b2,b3,rfl,rfl⟩:=h';rcases Nat.lt_trichotomy k k' with h|h|h
 · have:=goodK_mono (ps:=ps) (ds:=ds) (n:=k') (i:=k+1) h a3
   rw [b2] at this; cases this
 · subst h
   rw [a1] at b1; cases b1;exact ⟨rfl,rfl⟩
 · have:=goodK_mono (ps:=ps) (ds:=ds) (n:=k) (i:=k'+1) h b3
   rw [a2] at this; cases this
theorem bad_lt {ps:List PT}{ds:List DV}{p w:Int}(h:BadAt ps ds p w):goodK ps ds ps.length=false:=by
 obtain ⟨k,x,a1,a2,a3,_,_⟩:=h;have hk:k<ps.length:=by
  rcases Nat.lt_or_ge k ps.length with h1|h1
  · exact h1
  · rw [List.getElem?_eq_none h1] at a1; cases a1
 exact goodK_mono (by omega) a3
theorem parse_fun {s:ByteArray}{ds:List DV}{r:PR}{ps ps':List PT}{p p' w w':Int}(h:ParseBy s ds r ps p w)(h':ParseBy s ds r ps' p' w'):ps=ps'∧p=p'∧w=w':=by
 rcases h with ⟨a0,rfl,rfl,rfl⟩|⟨a0,h⟩
 · rcases h' with ⟨_,rfl,rfl,rfl⟩|⟨b0,_⟩
   · exact ⟨rfl,rfl,rfl⟩
   · exact absurd b0 a0
 rcases h' with ⟨b0,_⟩|⟨_,h'⟩
 · exact absurd a0 b0
 rcases h with ⟨a1,rfl,rfl,rfl⟩|⟨v,out,rfl,h⟩
 · rcases h' with ⟨_,rfl,rfl,rfl⟩|⟨v,out,rfl,_⟩
   · exact ⟨rfl,rfl,rfl⟩
   · exact absurd rfl a1
 rcases h' with ⟨b1,_⟩|⟨v',out',e,h'⟩
 · exact absurd rfl b1
 cases e;rcases h with ⟨g,rfl,rfl,rfl⟩|⟨g,rfl⟩
 · rcases h' with ⟨_,rfl,rfl,rfl⟩|⟨g',_⟩
   · exact ⟨rfl,rfl,rfl⟩
   · rw [bad_lt g'] at g; cases g
 · rcases h' with ⟨g',_⟩|⟨g',rfl⟩
   · rw [bad_lt g] at g'; cases g'
   · obtain ⟨rfl,rfl⟩:=bad_fun g g'
     exact ⟨rfl,rfl,rfl⟩
theorem rd_any (s:ByteArray):∃ r,Rd s.size (.lv 6) (lexS s).1 0 [] r:=rd_total s.size ((lexS s).1.length*10+8) (.lv 6) (lexS s).1 0 [] (by simp only [rank]; omega) (by simp [Good])
section
variable [Gl]
theorem c20r {c:FuncId}{s:ByteArray}{y:T}{ds:List DV}{r:PR}(hs:s.size≤1000000000)(hy:Slice y (ds.map decT))(hlD:ds.length≤2000000)(hr:Rd s.size (.lv 6) (lexS s).1 0 [] r)(hm:md c 20 = .pure) :
   ∃ ps p w x,ParseBy s ds r ps p w∧Slice x (ps.map prP)∧∀ h,callD (cx.at c) (call cx prim) 20 [.t (.str s),.t y] h=some (.tup [.t x,.t (iv p),.t (iv w)],h):=by
 by_cases hw:(lexS s).2.2=0
 · rcases fau_why (rd_why hr) with ⟨h0,v,out,rfl⟩|h0
   · obtain ⟨d,p,w,h',q,k⟩:=s20_all (h:=.empty) rfl hs hy hlD hw hr (smallP s v out hr)
     rcases k with ⟨hg,rfl,rfl,id,k1,rfl,k3,_⟩|⟨hb,rfl⟩
     · refine ⟨out,0,0,.slice (out.map prP),.inr ⟨hw,.inr ⟨v,out,rfl,.inl ⟨hg,rfl,rfl,rfl⟩⟩⟩,.inr rfl,fun h=>pureT cb20 hm q ?_ rfl⟩
       have hsn:Vai.snap h' (.row id 0 out.length out.length)=some (.slice (out.map prP)):=row_snap k3 (by simp)
       simp only [snapOut,allM,hsn,snap_t]; rfl
     · exact ⟨[],p,w,.nilSlice,.inr ⟨hw,.inr ⟨v,out,rfl,.inr ⟨hb,rfl⟩⟩⟩,.inl ⟨rfl,rfl⟩,fun h=>pureT cb20 hm q rfl rfl⟩
   · obtain ⟨h',q⟩:=s20_par (h:=.empty) rfl (y:=y) hs hw hr h0
     exact ⟨[],_,_,.nilSlice,.inr ⟨hw,.inl ⟨h0,rfl,rfl,rfl⟩⟩,.inl ⟨rfl,rfl⟩,fun h=>pureT cb20 hm q rfl rfl⟩
 · obtain ⟨h',q⟩:=s20_lex (h:=.empty) (y:=y) hs hw
   exact ⟨[],_,_,.nilSlice,.inl ⟨hw,rfl,rfl,rfl⟩,.inl ⟨rfl,rfl⟩,fun h=>pureT cb20 hm q rfl rfl⟩
theorem by_okv {s:ByteArray}{ds:List DV}{r:PR}{ps:List PT}{p w:Int}(hr:Rd s.size (.lv 6) (lexS s).1 0 [] r)(h:ParseBy s ds r ps p w):∀ x∈ps,OKV (partV x):=by
 rcases h with ⟨_,rfl,_⟩|⟨_,⟨_,rfl,_⟩|⟨v,out,rfl,⟨_,rfl,_⟩|⟨_,rfl⟩⟩⟩
 · intro x hx; cases hx
 · intro x hx; cases hx
 · exact rd_okv hr
 · intro x hx; cases hx
theorem by_len {s:ByteArray}{ds:List DV}{r:PR}{ps:List PT}{p w:Int}(hr:Rd s.size (.lv 6) (lexS s).1 0 [] r)(h:ParseBy s ds r ps p w):ps.length≤256:=by
 rcases h with ⟨_,rfl,_⟩|⟨_,⟨_,rfl,_⟩|⟨v,out,rfl,⟨_,rfl,_⟩|⟨_,rfl⟩⟩⟩
 · simp
 · simp
 · have:=rd_size hr
   have hl:=lexS_len s;simp only [Size,List.length_nil] at this;omega
 · simp
def fndV (ps:List PT)(w:Int)(vl:List WV)(kd:Int):V3 × Int:=if w≠0 then (z3,w) else if kindS ps (vl.map dcl)≠kd then (z3,132) else evV ps vl
end
end Go.Proofs.YtaldobgfbkllfaaGreatDoor
