import Derived.Test.YtaldobgfbkllfaaGreatDoorVaiSn
import Derived.Test.YtaldobgfbkllfaaGreatDoorVaiSo
import Derived.Test.YtaldobgfbkllfaaGreatDoorVaiSq
import Derived.Test.YtaldobgfbkllfaaGreatDoorVaiSe
import Derived.Test.YtaldobgfbkllfaaGreatDoorVaiSp
set_option linter.unusedSimpArgs false
set_option linter.unusedVariables false
set_option linter.unusedSectionVars false
namespace Go.Proofs.YtaldobgfbkllfaaGreatDoor
open Vai
variable [Gl]
set_option maxHeartbeats 0
set_option maxRecDepth 100000
section
variable {vs y l:T}{s:ByteArray}{at_ e K kd:Int}(hy:∀ (c:FuncId)(h:H),md c 17 = .pure→callD (cx.at c) (call cx prim) 17 [.t vs] h=some (.t y,h))
 (hP:∀ h,callD (cx.at 43) (call cx prim) 20 [.t (.str s),.t y] h=some (.tup [.t l,.t (iv at_),.t (iv e)],h))
include hy hP
theorem s43e (he:e≠0):∃ h',call cx prim 43 [.t (.str s),.t vs,.t (iv kd)] .empty=some (.tup [.t (val3 z3),.t (iv e)],h'):=by
 rw [call_run (cx:=cx) rfl Tryz.func43 ok43 nd43 rfl (lbe rfl) rfl rfl];have q1:=fun h=>hy 43 h rfl
 have e1:eqI e 0=false:=eqI_false he;simp -implicitDefEqProofs (disch:=omega) [q1,hP,e1]
theorem s43k (he:e=0)(hK:∀ h,callD (cx.at 43) (call cx prim) 26 [.t l,.t y] h=some (.t (iv K),h))(hk:K≠kd):∃ h',call cx prim 43 [.t (.str s),.t vs,.t (iv kd)] .empty=some (.tup [.t (val3 z3),.t (iv 132)],h'):=by
 rw [call_run (cx:=cx) rfl Tryz.func43 ok43 nd43 rfl (lbe rfl) rfl rfl];have q1:=fun h=>hy 43 h rfl
 subst he;have e1:eqI K kd=false:=eqI_false hk;simp -implicitDefEqProofs (disch:=omega) [q1,hP,hK,e1]
theorem s43 (he:e=0)(hK:∀ h,callD (cx.at 43) (call cx prim) 26 [.t l,.t y] h=some (.t (iv K),h))(hk:K=kd){v:V3}{er:Int}(hV:∀ h,callD (cx.at 43) (call cx prim) 15 [.t l,.t vs] h=some (.tup [.t (val3 v),.t (iv er)],h)) :
  ∃ h',call cx prim 43 [.t (.str s),.t vs,.t (iv kd)] .empty=some (.tup [.t (val3 v),.t (iv er)],h'):=by
 rw [call_run (cx:=cx) rfl Tryz.func43 ok43 nd43 rfl (lbe rfl) rfl rfl];have q1:=fun h=>hy 43 h rfl
 subst he hk;simp -implicitDefEqProofs (disch:=omega) [q1,hP,hK,hV]
end
theorem c43 {c:FuncId}{s:ByteArray}{vs:T}{kd er:Int}{v:V3}(hm:md c 43 = .pure)(hq:∃ h',call cx prim 43 [.t (.str s),.t vs,.t (iv kd)] .empty=some (.tup [.t (val3 v),.t (iv er)],h'))(h:H) :
  callD (cx.at c) (call cx prim) 43 [.t (.str s),.t vs,.t (iv kd)] h=some (.tup [.t (val3 v),.t (iv er)],h):=by
 obtain ⟨h',q⟩:=hq;exact pureT cb43 hm q rfl rfl
theorem s21b {s:ByteArray}{vs:T}{vl:List WV}(hv:Slice vs (vl.map varW))(hs:smallW vl)(hb:varsB vl=false):∃ h',call cx prim 21 [.t (.str s),.t vs] .empty=some (.tup [.t (.bool false),.t (iv 2)],h'):=by
 rw [call_run (cx:=cx) rfl Tryz.func21 ok21 nd21 rfl (lbe rfl) rfl rfl];have q1:=fun h=>c34 (c:=21) (d:=.t vs) (x:=vs) h rfl hv hs rfl
 rw [hb] at q1;simp -implicitDefEqProofs (disch:=omega) [q1]
theorem s21 {s:ByteArray}{vs:T}{vl:List WV}(hv:Slice vs (vl.map varW))(hs:smallW vl)(hb:varsB vl=true){v:V3}{er:Int}(hF:∀ h,callD (cx.at 21) (call cx prim) 43 [.t (.str s),.t vs,.t (iv 2)] h=some (.tup [.t (val3 v),.t (iv er)],h)) :
  ∃ h',call cx prim 21 [.t (.str s),.t vs] .empty=some (.tup [.t (.bool (eqI v.2.1 1)),.t (iv er)],h'):=by
 rw [call_run (cx:=cx) rfl Tryz.func21 ok21 nd21 rfl (lbe rfl) rfl rfl];have q1:=fun h=>c34 (c:=21) (d:=.t vs) (x:=vs) h rfl hv hs rfl
 rw [hb] at q1;simp -implicitDefEqProofs (disch:=omega) [q1,hF]
theorem c21 {c:FuncId}{s:ByteArray}{vs:T}{er:Int}{b:Bool}(hm:md c 21 = .pure)(hq:∃ h',call cx prim 21 [.t (.str s),.t vs] .empty=some (.tup [.t (.bool b),.t (iv er)],h'))(h:H) :
  callD (cx.at c) (call cx prim) 21 [.t (.str s),.t vs] h=some (.tup [.t (.bool b),.t (iv er)],h):=by
 obtain ⟨h',q⟩:=hq;exact pureT cb21 hm q rfl rfl
theorem c15v {ps:List PT}{l vs:T}{vl:List WV}(hlp:Slice l (ps.map prP))(hv:Slice vs (vl.map varW))(hs:smallW vl)(hp:PartsOK ps vl)(hln:ps.length≤2000000){c:FuncId}(hm:md c 15 = .pure)(h:H):callD (cx.at c) (call cx prim) 15 [.t l,.t vs] h=some (.tup [.t (val3 (evV ps vl).1),.t (iv (evV ps vl).2)],h):=by
 obtain ⟨h',q⟩:=v15 hlp hv hs hp hln;exact pureT cb15 hm q rfl rfl
end Go.Proofs.YtaldobgfbkllfaaGreatDoor

namespace Go.Proofs.YtaldobgfbkllfaaGreatDoor
open Vai P0
variable [Gl]
set_option maxHeartbeats 0
set_option maxRecDepth 100000
section
variable {s:ByteArray}{vs:T}{vl:List WV}{r:PR}{ps:List PT}{p w:Int}(hs:s.size≤1000000000)(hv:Slice vs (vl.map varW))(hsm:smallW vl)(hok:∀ nm,OKV (getV vl nm))(hr:Rd s.size (.lv 6) (lexS s).1 0 [] r)(hb:ParseBy s (vl.map dcl) r ps p w)
include hs hv hsm hok hr hb
theorem g43 (kd:Int):∃ h',call cx prim 43 [.t (.str s),.t vs,.t (iv kd)] .empty=some (.tup [.t (val3 (fndV ps w vl kd).1),.t (iv (fndV ps w vl kd).2)],h'):=by
 obtain ⟨y,hy,q17⟩:=c17 hv hsm.1;rw [dclT] at hy;obtain ⟨ps',p',w',x,b',hx,q20⟩:=c20r (c:=43) hs hy (by simpa using hsm.1) hr rfl
 obtain ⟨rfl,rfl,rfl⟩:=parse_fun hb b';have hln:=by_len hr hb;have hpo:PartsOK ps vl:=⟨by_okv hr hb,hok⟩;have qK:=fun h=>c26 hx hy (by simpa using hsm.1) (fun z hz=>(hpo.1 z hz).2.2) (by omega) (c:=43) rfl h
 unfold fndV;by_cases hw:w=0
 · rw [if_neg (by simpa using hw)]
   by_cases hk:kindS ps (vl.map dcl)=kd
   · rw [if_neg (by simpa using hk)]
     exact s43 q17 q20 hw qK hk fun h=>c15v hx hv hsm hpo (by omega) (c:=43) rfl h
   · rw [if_pos hk]; exact s43k q17 q20 hw qK hk
 · rw [if_pos hw]; exact s43e q17 q20 hw
theorem g21 {c:FuncId}(hm:md c 21 = .pure)(h:H):callD (cx.at c) (call cx prim) 21 [.t (.str s),.t vs] h=some (.tup [.t (.bool (hldW ps w vl).1),.t (iv (hldW ps w vl).2)],h):=by
 refine c21 hm ?_ h;unfold hldW
 cases hvb:varsB vl with
 | false=>rw [if_pos rfl]; exact s21b hv hsm hvb
 | true =>
  rw [if_neg (by decide)]
  exact s21 hv hsm hvb fun h=>c43 rfl (g43 hs hv hsm hok hr hb 2) h
end
theorem le63 {n:Nat}(h:n≤1000000):(n≤9223372036854775807)=True:=eq_true (by omega)
theorem zq1:(⟨#[40]⟩:ByteArray).size=1:=rfl
theorem zq2:(⟨#[41]⟩:ByteArray).size=1:=rfl
theorem zq3:(⟨#[41,32,38,38,32,40]⟩:ByteArray).size=6:=rfl
theorem zq4:(⟨#[41,32,124,124,32,40]⟩:ByteArray).size=6:=rfl
theorem zq5:(⟨#[41,32,63,32,40]⟩:ByteArray).size=5:=rfl
theorem zq6:(⟨#[41,32,58,32,33,40]⟩:ByteArray).size=6:=rfl
def Late (f:Int):Prop:=f=0∨f=141∨f=142∨f=3
section
variable {s t:ByteArray}{vs:T}{vl:List WV}(hv:Slice vs (vl.map varW))(h40:vl.length≤40)(h100:s.size+t.size≤100){x y z o c:Bool}{e f g k i:Int}
 (qs:∀ hh,callD (cx.at 6) (call cx prim) 21 [.t (.str s),.t vs] hh=some (.tup [.t (.bool x),.t (iv e)],hh)) (qt:∀ hh,callD (cx.at 6) (call cx prim) 21 [.t (.str t),.t vs] hh=some (.tup [.t (.bool y),.t (iv f)],hh))
 (qa:∀ hh,callD (cx.at 6) (call cx prim) 21 [.t (.str (q2 38 s t)),.t vs] hh=some (.tup [.t (.bool z),.t (iv g)],hh)) (qo:∀ hh,callD (cx.at 6) (call cx prim) 21 [.t (.str (q2 124 s t)),.t vs] hh=some (.tup [.t (.bool o),.t (iv k)],hh))
 (qc:∀ hh,callD (cx.at 6) (call cx prim) 21 [.t (.str (q3 s t)),.t vs] hh=some (.tup [.t (.bool c),.t (iv i)],hh))
include hv h40 h100 qs qt qa qo qc
theorem w6_2 (he:e=2)(hf:f=2):∃ h',call cx prim 6 [.t (.str s),.t (.str t),.t vs] .empty=some (.t (.bool true),h'):=by
 rw [call_run (cx:=cx) rfl Tryz.func6 ok6 nd6 rfl (lbe rfl) rfl rfl];have q14:=fun h=>c14 (c:=6) h rfl
 have hlv:=fun hh=>hv.len (P:=Tryz.prog) (t:=23) tk23 hh
 rw [List.length_map] at hlv;have e1:ltI 40 (vl.length:Int)=false:=ltI_false (by omega)
 have e2:ltI 100 ((s.size:Int)+t.size)=false:=ltI_false (by omega)
 subst he hf;simp -implicitDefEqProofs (disch:=omega) [le63,ByteArray.size_append,zq1,zq2,zq3,zq4,zq5,zq6,q14,hlv,e1,e2,qs,qt,eqI]
theorem w6_1 (he:e≠2)(hf:¬ Late f):∃ h',call cx prim 6 [.t (.str s),.t (.str t),.t vs] .empty=some (.t (.bool true),h'):=by
 simp only [Late,not_or] at hf;obtain ⟨f1,f2,f3,f4⟩:=hf;rw [call_run (cx:=cx) rfl Tryz.func6 ok6 nd6 rfl (lbe rfl) rfl rfl];have q14:=fun h=>c14 (c:=6) h rfl
 have hlv:=fun hh=>hv.len (P:=Tryz.prog) (t:=23) tk23 hh
 rw [List.length_map] at hlv;have e1:ltI 40 (vl.length:Int)=false:=ltI_false (by omega)
 have e2:ltI 100 ((s.size:Int)+t.size)=false:=ltI_false (by omega)
 simp only [q2,q3] at qa qo qc;simp -implicitDefEqProofs (disch:=omega) [le63,ByteArray.size_append,zq1,zq2,zq3,zq4,zq5,zq6,q14,hlv,e1,e2,qs,qt,qa,qo,qc,eqI,he,f1,f2,f3,f4]
theorem w6_3 (he:e≠2)(hf:Late f)(h134:(g=134∨k=134∨i=134)∨e≠0∨(f=3∧0<t.size)):∃ h',call cx prim 6 [.t (.str s),.t (.str t),.t vs] .empty=some (.t (.bool true),h'):=by
 rw [call_run (cx:=cx) rfl Tryz.func6 ok6 nd6 rfl (lbe rfl) rfl rfl];have q14:=fun h=>c14 (c:=6) h rfl
 have hlv:=fun hh=>hv.len (P:=Tryz.prog) (t:=23) tk23 hh
 rw [List.length_map] at hlv;have e1:ltI 40 (vl.length:Int)=false:=ltI_false (by omega)
 have e2:ltI 100 ((s.size:Int)+t.size)=false:=ltI_false (by omega)
 simp only [q2,q3] at qa qo qc;obtain ⟨lt,hlt⟩:∃ b,ltI 0 (t.size:Int)=b:=⟨_,rfl⟩;have hfacts:(eqI f 0||eqI f 141||eqI f 142||eqI f 3)=true:=by
   rcases hf with rfl|rfl|rfl|rfl<;>rfl
 by_cases g1:g=134
 · rcases hf with rfl|rfl|rfl|rfl<;>simp -implicitDefEqProofs (disch:=omega) [le63,ByteArray.size_append,zq1,zq2,zq3,zq4,zq5,zq6,q14,hlv,e1,e2,qs,qt,qa,qo,qc,eqI,he,g1]
 by_cases k1:k=134
 · rcases hf with rfl|rfl|rfl|rfl<;>simp -implicitDefEqProofs (disch:=omega) [le63,ByteArray.size_append,zq1,zq2,zq3,zq4,zq5,zq6,q14,hlv,e1,e2,qs,qt,qa,qo,qc,eqI,he,g1,k1]
 by_cases i1:i=134
 · rcases hf with rfl|rfl|rfl|rfl<;>simp -implicitDefEqProofs (disch:=omega) [le63,ByteArray.size_append,zq1,zq2,zq3,zq4,zq5,zq6,q14,hlv,e1,e2,qs,qt,qa,qo,qc,eqI,he,g1,k1,i1]
 by_cases e0:e=0
 · obtain ⟨rfl,h0⟩:f=3∧0<t.size:=by
    rcases h134 with (h|h|h)|h|h
    · exact absurd h g1
    · exact absurd h k1
    · exact absurd h i1
    · exact absurd e0 h
    · exact h
   have e3:ltI 0 (t.size:Int)=true:=ltI_true (by omega)
   simp -implicitDefEqProofs (disch:=omega) [le63,ByteArray.size_append,zq1,zq2,zq3,zq4,zq5,zq6,q14,hlv,e1,e2,e3,qs,qt,qa,qo,qc,eqI,e0,g1,k1,i1]
 · rcases hf with rfl|rfl|rfl|rfl<;>simp -implicitDefEqProofs (disch:=omega) [le63,ByteArray.size_append,zq1,zq2,zq3,zq4,zq5,zq6,q14,hlv,e1,e2,qs,qt,qa,qo,qc,eqI,he,e0,g1,k1,i1]
theorem w6_f (he:e=0)(hf:Late f)(g1:g≠134)(k1:k≠134)(i1:i≠134)(h3:¬ (f=3∧0<t.size))(hx:x=false)(hz:z=false)(hg:g=0)(ho:o=y)(hk:k=f)(hc:c=true)(hi:i=0) :
   ∃ h',call cx prim 6 [.t (.str s),.t (.str t),.t vs] .empty=some (.t (.bool true),h'):=by
 rw [call_run (cx:=cx) rfl Tryz.func6 ok6 nd6 rfl (lbe rfl) rfl rfl];have q14:=fun h=>c14 (c:=6) h rfl
 have hlv:=fun hh=>hv.len (P:=Tryz.prog) (t:=23) tk23 hh
 rw [List.length_map] at hlv;have e1:ltI 40 (vl.length:Int)=false:=ltI_false (by omega)
 have e2:ltI 100 ((s.size:Int)+t.size)=false:=ltI_false (by omega)
 simp only [q2,q3] at qa qo qc;subst he hx hz hg ho hk hc hi;by_cases h0:0<t.size
 · have e3:ltI 0 (t.size:Int)=true:=ltI_true (by omega)
   have f3:k≠3:=fun h=>h3 ⟨h,h0⟩
   rcases hf with rfl|rfl|rfl|rfl<;>simp -implicitDefEqProofs (disch:=omega) [le63,ByteArray.size_append,zq1,zq2,zq3,zq4,zq5,zq6,q14,hlv,e1,e2,e3,qs,qt,qa,qo,qc,eqI] at f3 ⊢
 · have e3:ltI 0 (t.size:Int)=false:=ltI_false (by omega)
   rcases hf with rfl|rfl|rfl|rfl<;>simp -implicitDefEqProofs (disch:=omega) [le63,ByteArray.size_append,zq1,zq2,zq3,zq4,zq5,zq6,q14,hlv,e1,e2,e3,qs,qt,qa,qo,qc,eqI]
theorem w6_t (he:e=0)(hf:Late f)(g1:g≠134)(k1:k≠134)(i1:i≠134)(h3:¬ (f=3∧0<t.size))(hx:x=true)(ho:o=true)(hk:k=0)(hz:z=y)(hg:g=f)(hc:c=y)(hi:i=f) :
   ∃ h',call cx prim 6 [.t (.str s),.t (.str t),.t vs] .empty=some (.t (.bool true),h'):=by
 rw [call_run (cx:=cx) rfl Tryz.func6 ok6 nd6 rfl (lbe rfl) rfl rfl];have q14:=fun h=>c14 (c:=6) h rfl
 have hlv:=fun hh=>hv.len (P:=Tryz.prog) (t:=23) tk23 hh
 rw [List.length_map] at hlv;have e1:ltI 40 (vl.length:Int)=false:=ltI_false (by omega)
 have e2:ltI 100 ((s.size:Int)+t.size)=false:=ltI_false (by omega)
 simp only [q2,q3] at qa qo qc;subst he hx ho hk hz hg hc hi;by_cases h0:0<t.size
 · have e3:ltI 0 (t.size:Int)=true:=ltI_true (by omega)
   have f3:i≠3:=fun h=>h3 ⟨h,h0⟩
   rcases hf with rfl|rfl|rfl|rfl<;>simp -implicitDefEqProofs (disch:=omega) [le63,ByteArray.size_append,zq1,zq2,zq3,zq4,zq5,zq6,q14,hlv,e1,e2,e3,qs,qt,qa,qo,qc,eqI] at f3 ⊢
 · have e3:ltI 0 (t.size:Int)=false:=ltI_false (by omega)
   rcases hf with rfl|rfl|rfl|rfl<;>simp -implicitDefEqProofs (disch:=omega) [le63,ByteArray.size_append,zq1,zq2,zq3,zq4,zq5,zq6,q14,hlv,e1,e2,e3,qs,qt,qa,qo,qc,eqI]
end
theorem q2_size (b:UInt8)(s t:ByteArray):(q2 b s t).size=s.size+t.size+8:=by
 have h:(q2 b s t).data.toList=40::(s.data.toList++(41::32::b::b::32::40::(t.data.toList ++ [41]))):=by simp [q2]
 have:=congrArg List.length h;simp only [List.length_cons,List.length_append,List.length_nil,len_bytes] at this;omega
theorem q3_size (s t:ByteArray):(q3 s t).size=s.size+t.size+s.size+13:=by
 have h:(q3 s t).data.toList=40::(s.data.toList++(41::32::63::32::40::(t.data.toList++(41::32::58::32::33::40::(s.data.toList ++ [41]))))):=by simp [q3]
 have:=congrArg List.length h;simp only [List.length_cons,List.length_append,List.length_nil,len_bytes] at this;omega
theorem gE_two {ds:List DV}{op:Int}{a b:Ex}{q:Int}(ha:gE ds a=true)(hb:gE ds b=true)(hk:kE ds (.two op a b q)≠0):gE ds (.two op a b q)=true:=by
 simp only [gE,ha,hb,Bool.true_and,Bool.not_eq_true',decide_eq_false_iff_not]; exact hk
theorem gE_one {ds:List DV}{op:Int}{a:Ex}{q:Int}(ha:gE ds a=true)(hk:kE ds (.one op a q)≠0):gE ds (.one op a q)=true:=by
 simp only [gE,ha,Bool.true_and,Bool.not_eq_true',decide_eq_false_iff_not]; exact hk
theorem gE_tri {ds:List DV}{a b c:Ex}{q:Int}(ha:gE ds a=true)(hb:gE ds b=true)(hc:gE ds c=true)(hk:kE ds (.tri a b c q)≠0):gE ds (.tri a b c q)=true:=by
 simp only [gE,ha,hb,hc,Bool.true_and,Bool.not_eq_true',decide_eq_false_iff_not]; exact hk
theorem some_r (s:ByteArray){y:T}{ds:List DV}(hs:s.size≤1000000000)(hy:Slice y (ds.map decT))(hl:ds.length≤2000000):∃ r ps p w,Rd s.size (.lv 6) (lexS s).1 0 [] r∧ParseBy s ds r ps p w:=by
 obtain ⟨r,hr⟩:=rd_any s;obtain ⟨ps,p,w,x,hb,_⟩:=c20r (c:=43) hs hy hl hr rfl;exact ⟨r,ps,p,w,hr,hb⟩
theorem three {s t:ByteArray}{vl:List WV}{e1 e2:Ex}(hv:varsB vl=true)(hz:s.size+t.size≤100)(h1:GoodC s vl e1)(h2:GoodC t vl e2) :
   (∃ r ps p w,Rd (q2 38 s t).size (.lv 6) (lexS (q2 38 s t)).1 0 [] r∧ParseBy (q2 38 s t) (vl.map dcl) r ps p w∧((hldW ps w vl).2=134∨∃ u v q,hldW ps w vl=(eqI (evE vl (.two 17 (e1.fwd u) (e2.fwd v) q)).1.2.1 1,(evE vl (.two 17 (e1.fwd u) (e2.fwd v) q)).2))) ∧
   (∃ r ps p w,Rd (q2 124 s t).size (.lv 6) (lexS (q2 124 s t)).1 0 [] r∧ParseBy (q2 124 s t) (vl.map dcl) r ps p w∧((hldW ps w vl).2=134∨∃ u v q,hldW ps w vl=(eqI (evE vl (.two 18 (e1.fwd u) (e2.fwd v) q)).1.2.1 1,(evE vl (.two 18 (e1.fwd u) (e2.fwd v) q)).2))) ∧
   (∃ r ps p w,Rd (q3 s t).size (.lv 6) (lexS (q3 s t)).1 0 [] r∧ParseBy (q3 s t) (vl.map dcl) r ps p w∧((hldW ps w vl).2=134∨∃ u v z q q',hldW ps w vl=(eqI (evE vl (.tri (e1.fwd u) (e2.fwd v) (.one 4 (e1.fwd z) q') q)).1.2.1 1,(evE vl (.tri (e1.fwd u) (e2.fwd v) (.one 4 (e1.fwd z) q') q)).2))):=by
 obtain ⟨a1,⟨k1,a2⟩,a3,a4,_⟩:=h1;obtain ⟨b1,⟨k2,b2⟩,b3,b4,_⟩:=h2;refine ⟨?_,?_,?_⟩
 · obtain ⟨o,c,op,o2,c2,u,v,hq,ho,hc,hop,ho2,hc2⟩:=lex_q2 (b:=38) (.inl rfl) a1 b1 (by omega)
   obtain ⟨k,ht⟩:=tr_and (u:=u) (v:=v) ho hc ho2 hc2 a2 b2 hop;have hk:=(kd_two (ds:=vl.map dcl) (q:=op.pos) (a:=e1.fwd u) (b:=e2.fwd v) (by rw [kE_fwd]; exact a4) (by rw [kE_fwd]; exact b4)).1
   obtain ⟨r,ps,p,w,g1,g2,g3⟩:=comb hv hq ht (gE_two (by rw [gE_fwd]; exact a3) (by rw [gE_fwd]; exact b3) (by rw [hk]; decide)) hk
   exact ⟨r,ps,p,w,g1,g2,g3.imp id fun h=>⟨u,v,op.pos,h⟩⟩
 · obtain ⟨o,c,op,o2,c2,u,v,hq,ho,hc,hop,ho2,hc2⟩:=lex_q2 (b:=124) (.inr rfl) a1 b1 (by omega)
   obtain ⟨k,ht⟩:=tr_or (u:=u) (v:=v) ho hc ho2 hc2 a2 b2 hop;have hk:=(kd_two (ds:=vl.map dcl) (q:=op.pos) (a:=e1.fwd u) (b:=e2.fwd v) (by rw [kE_fwd]; exact a4) (by rw [kE_fwd]; exact b4)).2
   obtain ⟨r,ps,p,w,g1,g2,g3⟩:=comb hv hq ht (gE_two (by rw [gE_fwd]; exact a3) (by rw [gE_fwd]; exact b3) (by rw [hk]; decide)) hk
   exact ⟨r,ps,p,w,g1,g2,g3.imp id fun h=>⟨u,v,op.pos,h⟩⟩
 · obtain ⟨o,c,op,o2,c2,cl,no,o3,c3,u,v,z,hq,ho,hc,hop,ho2,hc2,hcl,hno,ho3,hc3⟩:=lex_q3 a1 b1 (by omega)
   obtain ⟨k,ht⟩:=tr_ask (u:=u) (v:=v) (w:=z) ho hc ho2 hc2 a2 b2 hop hcl hno ho3 hc3;have hkn:=kd_not (ds:=vl.map dcl) (q:=no.pos) (a:=e1.fwd z) (by rw [kE_fwd]; exact a4)
   have hk:=kd_tri (ds:=vl.map dcl) (q:=op.pos) (a:=e1.fwd u) (b:=e2.fwd v) (by rw [kE_fwd]; exact a4) (by rw [kE_fwd]; exact b4) hkn
   obtain ⟨r,ps,p,w,g1,g2,g3⟩:=comb hv hq ht (gE_tri (by rw [gE_fwd]; exact a3) (by rw [gE_fwd]; exact b3) (gE_one (by rw [gE_fwd]; exact a3) (by rw [hkn]; decide)) (by rw [hk]; decide)) hk
   exact ⟨r,ps,p,w,g1,g2,g3.imp id fun h=>⟨u,v,z,op.pos,no.pos,h⟩⟩
theorem good_01 {s:ByteArray}{vs:T}{vl:List WV}{e:Ex}(hv:Slice vs (vl.map varW))(hsm:smallW vl)(hok:∀ nm,OKV (getV vl nm))(hvb:varsB vl=true)(G:GoodC s vl e)(h0:(evE vl e).2=0):(evE vl e).1.2.1=0∨(evE vl e).1.2.1=1:=by
 obtain ⟨a1,⟨k1,a2⟩,a3,a4,a5⟩:=G;have hw:=tr_wf a2;have ep:=e.pos;have hl:=fl_len e 0;have hg:goodK (e.fl 0) (vl.map dcl) (e.fl 0).length=true:=by rw [good_fl hw]; exact a3
 have q:=(of_ref hv hsm.1 hvb ⟨a5,hok⟩ hg e.len (0+e.len-1) (by omega) (by omega)).2.1
 have hev:=ev_at (vl:=vl) hw (At.self e) (Nat.le_refl e.len);have hkd:=kinds_at (ds:=vl.map dcl) hw (At.self e) (n:=(e.fl 0).length) (by omega)
 rw [hev,hkd,a4] at q;exact ((q h0).2.2.1 rfl).2
theorem lexW_not {w:Int}(h:(LexW w∧True)∨w=131∨w=134∨w=132∨w=133):w≠0∧w≠2∧w≠141∧w≠142:=by
 unfold LexW at h;omega
theorem law6 {s t:ByteArray}{vs:T}{vl:List WV}(hs:s.size≤1048576)(ht:t.size≤1048576)(hv:Slice vs (vl.map varW))(hsm:smallW vl)(hok:∀ nm,OKV (getV vl nm)):∃ h',call cx prim 6 [.t (.str s),.t (.str t),.t vs] .empty=some (.t (.bool true),h'):=by
 by_cases hbig:vl.length≤40∧s.size+t.size≤100
 rotate_left
 · rw [call_run (cx:=cx) rfl Tryz.func6 ok6 nd6 rfl (lbe rfl) rfl rfl]
   have q14:=fun h=>c14 (c:=6) h rfl
   have hlv:=fun hh=>hv.len (P:=Tryz.prog) (t:=23) tk23 hh
   rw [List.length_map] at hlv;by_cases h40:vl.length≤40
   · have e1:ltI 40 (vl.length:Int)=false:=ltI_false (by omega)
     have e2:ltI 100 ((s.size:Int)+t.size)=true:=ltI_true (by omega)
     simp -implicitDefEqProofs (disch:=omega) [q14,hlv,e1,e2]
   · have e1:ltI 40 (vl.length:Int)=true:=ltI_true (by omega)
     simp -implicitDefEqProofs (disch:=omega) [q14,hlv,e1]
 obtain ⟨h40,h100⟩:=hbig;obtain ⟨y,hy,_⟩:=c17 hv hsm.1;rw [dclT] at hy;have hyl:(vl.map dcl).length≤2000000:=by simpa using hsm.1
 have z2:=q2_size 38 s t;have z3:=q2_size 124 s t;have z4:=q3_size s t;obtain ⟨r1,ps1,p1,w1,hr1,hb1⟩:=some_r s (by omega) hy hyl
 obtain ⟨r2,ps2,p2,w2,hr2,hb2⟩:=some_r t (by omega) hy hyl
 have qs:=fun hh=>g21 (c:=6) (by omega) hv hsm hok hr1 hb1 rfl hh
 have qt:=fun hh=>g21 (c:=6) (by omega) hv hsm hok hr2 hb2 rfl hh
 obtain ⟨r3,ps3,p3,w3,hr3,hb3⟩:=some_r (q2 38 s t) (by omega) hy hyl
 obtain ⟨r4,ps4,p4,w4,hr4,hb4⟩:=some_r (q2 124 s t) (by omega) hy hyl
 obtain ⟨r5,ps5,p5,w5,hr5,hb5⟩:=some_r (q3 s t) (by omega) hy hyl
 have qa:=fun hh=>g21 (c:=6) (by omega) hv hsm hok hr3 hb3 rfl hh
 have qo:=fun hh=>g21 (c:=6) (by omega) hv hsm hok hr4 hb4 rfl hh
 have qc:=fun hh=>g21 (c:=6) (by omega) hv hsm hok hr5 hb5 rfl hh
 cases hvb:varsB vl with
 | false=>exact w6_2 hv h40 h100 qs qt qa qo qc (by unfold hldW; rw [if_pos hvb]) (by unfold hldW; rw [if_pos hvb])
 | true =>
   have k1:=good_of hvb hr1 hb1;have k2:=good_of hvb hr2 hb2;by_cases hf:Late (hldW ps2 w2 vl).2
   rotate_left
   · refine w6_1 hv h40 h100 qs qt qa qo qc ?_ hf
     rcases k1 with ⟨e1,_,h⟩|⟨h,h'⟩|h
     · rw [h]; have:=ev_w vl e1; unfold EvW at this; simp only; omega
     · rw [h]; exact (lexW_not (h'.imp (fun x=>⟨x.1,trivial⟩) id)).2.1
     · rw [h]; decide
   rcases k1 with ⟨e1,G1,h1⟩|h1
   rotate_left
   · have hne:(hldW ps1 w1 vl).2≠0∧(hldW ps1 w1 vl).2≠2:=by
       rcases h1 with ⟨h,h'⟩|h
       · have:=lexW_not (h'.imp (fun x=>⟨x.1,trivial⟩) id); rw [h]; exact ⟨this.1,this.2.1⟩
       · rw [h]; exact ⟨by decide,by decide⟩
     exact w6_3 hv h40 h100 qs qt qa qo qc hne.2 hf (.inr (.inl hne.1))
   have he2:(hldW ps1 w1 vl).2≠2:=by rw [h1]; have:=ev_w vl e1; unfold EvW at this; simp only; omega
   by_cases he0:(hldW ps1 w1 vl).2=0
   rotate_left
   · exact w6_3 hv h40 h100 qs qt qa qo qc he2 hf (.inr (.inl he0))
   by_cases h3:(hldW ps2 w2 vl).2=3∧0<t.size
   · exact w6_3 hv h40 h100 qs qt qa qo qc he2 hf (.inr (.inr h3))
   rcases k2 with ⟨e2,G2,h2⟩|⟨h,h'⟩|h
   rotate_left
   · exfalso
     rw [h] at hf h3;rcases h' with ⟨h4,h5⟩|h4
     · unfold Late at hf; unfold LexW at h4
       have:w2≠3:=fun e=>h3 ⟨e,h5⟩
       omega
     · unfold Late at hf; omega
   · exfalso; rw [h] at hf; unfold Late at hf; omega
   obtain ⟨⟨r3,ps3,p3,w3,hr3,hb3,v3⟩,⟨r4,ps4,p4,w4,hr4,hb4,v4⟩,⟨r5,ps5,p5,w5,hr5,hb5,v5⟩⟩:=three hvb h100 G1 G2;have qa:=fun hh=>g21 (c:=6) (by omega) hv hsm hok hr3 hb3 rfl hh
   have qo:=fun hh=>g21 (c:=6) (by omega) hv hsm hok hr4 hb4 rfl hh
   have qc:=fun hh=>g21 (c:=6) (by omega) hv hsm hok hr5 hb5 rfl hh
   by_cases c3:(hldW ps3 w3 vl).2=134
   · exact w6_3 hv h40 h100 qs qt qa qo qc he2 hf (.inl (.inl c3))
   by_cases c4:(hldW ps4 w4 vl).2=134
   · exact w6_3 hv h40 h100 qs qt qa qo qc he2 hf (.inl (.inr (.inl c4)))
   by_cases c5:(hldW ps5 w5 vl).2=134
   · exact w6_3 hv h40 h100 qs qt qa qo qc he2 hf (.inl (.inr (.inr c5)))
   obtain ⟨u,v,q,v3⟩:=v3.resolve_left c3;obtain ⟨u',v',q',v4⟩:=v4.resolve_left c4;obtain ⟨u'',v'',z'',q'',q''',v5⟩:=v5.resolve_left c5;rw [ev_two.1,evE_fwd,evE_fwd] at v3;rw [ev_two.2,evE_fwd,evE_fwd] at v4;rw [ev_tri,evE_fwd,evE_fwd,ev_not,evE_fwd] at v5;have hE:(evE vl e1).2=0:=by rw [h1] at he0; exact he0
   have n0:¬ ((evE vl e1).2≠0):=fun h=>h hE
   rw [if_neg n0] at v3 v4;rw [if_neg n0,if_neg n0] at v5;by_cases hx:(evE vl e1).1.2.1=1
   · rw [if_pos hx] at v3 v4 v5
     refine w6_t hv h40 h100 qs qt qa qo qc he0 hf c3 c4 c5 h3 ?_ ?_ ?_ ?_ ?_ ?_ ?_
     · rw [h1]; simp only [hx]; rfl
     · rw [v4]; simp only [hx]; rfl
     · rw [v4]
     · rw [v3,h2]
     · rw [v3,h2]
     · rw [v5,h2]
     · rw [v5,h2]
   · have hx':eqI (evE vl e1).1.2.1 1=false:=eqI_false hx
     rw [if_neg hx] at v3 v4 v5;have hb01:(evE vl e1).1.2.1=0:=(good_01 hv hsm hok hvb G1 hE).resolve_right hx;refine w6_f hv h40 h100 qs qt qa qo qc he0 hf c3 c4 c5 h3 ?_ ?_ ?_ ?_ ?_ ?_ ?_
     · rw [h1]; exact hx'
     · rw [v3]; exact hx'
     · rw [v3]
     · rw [v4,h2]
     · rw [v4,h2]
     · rw [v5,if_pos hb01]; rfl
     · rw [v5]
end Go.Proofs.YtaldobgfbkllfaaGreatDoor

namespace Go.Proofs.YtaldobgfbkllfaaGreatDoor
open Vai
abbrev uSh:Sh:=.agg [.int .i64,.int .i64,.str]
abbrev vSh:Sh:=.agg [.str,.agg [.int .i64,.int .i64,.str]]
abbrev dSh:Sh:=.agg [.str,.int .i64]
abbrev pSh:Sh:=.agg [.int .i64,.int .i64,.int .i64,.int .i64,.agg [.int .i64,.int .i64,.str],.str,.int .i64]
theorem var_dec {y:T}(h:vSh.has y):∃ v:WV,y=varW v∧(-9223372036854775808≤v.2.2.1∧v.2.2.1≤9223372036854775807):=by
 obtain ⟨l,rfl,_,_,rfl,⟨a,rfl⟩,_,_,rfl,⟨_,_,rfl,⟨k,rfl,_⟩,_,_,rfl,⟨n,rfl,hn⟩,_,_,rfl,⟨t,rfl⟩,rfl⟩,rfl⟩:=has_agg h;exact ⟨(a,k,n,t),rfl,hn⟩
theorem var_bulk (l:List WV):l.length≤T.bulk.bulks (l.map varW)∧∀ v∈l,v.1.size≤T.bulk.bulks (l.map varW)∧v.2.2.2.size≤T.bulk.bulks (l.map varW):=by
 induction l with
 | nil=>simp [T.bulk.bulks]
 | cons f l ih =>
  obtain ⟨h1,h3⟩:=ih;simp only [List.map_cons,T.bulk.bulks,T.bulk,List.length_cons];refine ⟨by omega,fun v hv=>?_⟩
  rcases List.mem_cons.1 hv with rfl|hv
  · omega
  · have:=h3 v hv
    omega
theorem get_ok {vl:List WV}(h1:∀ v∈vl,(-9223372036854775808≤v.2.2.1∧v.2.2.1≤9223372036854775807))(h2:∀ v∈vl,v.2.2.2.size≤1000000000)(nm:ByteArray):OKV (getV vl nm):=by
 unfold getV
 cases hw:getW vl nm with
 | none=>exact okz
 | some w =>
  have hm:=List.mem_of_find?_eq_some hw;exact ⟨(h1 w hm).1,(h1 w hm).2,h2 w hm⟩
end Go.Proofs.YtaldobgfbkllfaaGreatDoor
