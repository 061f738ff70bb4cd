import Derived.Test.YtaldobgfbkllfaaGreatDoorVaiSj
import Derived.Test.YtaldobgfbkllfaaGreatDoorVaiSd
set_option linter.unusedSimpArgs false
set_option linter.unusedVariables false
set_option linter.unusedSectionVars false
namespace Go.Proofs.YtaldobgfbkllfaaGreatDoor
open Vai
variable [Gl]
set_option maxHeartbeats 0
set_option maxRecDepth 100000
abbrev V3:=Int × Int × ByteArray
abbrev z3:V3:=(0,0,⟨#[]⟩)
abbrev partV (x:PT):V3:=(x.vk,x.vn,x.s)
def getV (vl:List WV)(nm:ByteArray):V3:=match getW vl nm with|some v=>(v.2.1,v.2.2.1,v.2.2.2)|none=>z3
theorem getT_V (vl:List WV)(nm:ByteArray):getT vl nm=val3 (getV vl nm):=by
 unfold getT getV;cases getW vl nm<;>rfl
def evB (r:Int→V3 × Int)(vl:List WV)(x:PT):V3 × Int :=
 if x.k=1 then (partV x,0)
 else if x.k=2 then (getV vl x.nm,0)
 else if (r x.a).2≠0 then (z3,(r x.a).2)
 else if x.k=3∨x.k=4∨x.k=5 then oneV x.k (r x.a).1.2.1 (r x.a).1.2.2
 else if x.k=17 then (if (r x.a).1.2.1=1 then r x.b else ((r x.a).1,0))
 else if x.k=18 then (if (r x.a).1.2.1=1 then ((r x.a).1,0) else r x.b)
 else if x.k=19 then (if (r x.a).1.2.1=1 then r x.b else r x.c)
 else if (r x.b).2≠0 then (z3,(r x.b).2)
 else twoV x.k (r x.a).1 (r x.b).1
def evF (ps:List PT)(vl:List WV):Nat→Int→V3 × Int
 | 0,_=>(z3,0)
 | f+1,i=>match ps[i.toNat]? with
  | none=>(z3,0)
  | some x=>evB (evF ps vl f) vl x
theorem evF_at {ps:List PT}{vl:List WV}{f i:Nat}{x:PT}(hx:ps[i]?=some x):evF ps vl (f+1) i=evB (evF ps vl f) vl x:=by
 simp only [evF,Int.toNat_natCast,hx]
theorem esz:(⟨#[]⟩:ByteArray).size≤1000000000:=by decide
def Sides (ps:List PT):Prop:=∀ (i:Nat) (x:PT),ps[i]?=some x→1≤x.k∧x.k≤19∧(3≤x.k→0≤x.a∧x.a<i)∧(6≤x.k→0≤x.b∧x.b<i)∧(x.k=19→0≤x.c∧x.c<i)
def OKV (v:V3):Prop:=-9223372036854775808≤v.2.1∧v.2.1≤9223372036854775807∧v.2.2.size≤1000000000
theorem okz:OKV z3:=⟨by decide,by decide,by decide⟩
theorem wrap_range (n:Int) : -9223372036854775808≤IntKind.i64.wrap n∧IntKind.i64.wrap n≤9223372036854775807:=by
 have e:(2:Int) ^ (64:Nat)=18446744073709551616:=by decide
 have e':(2:Int) ^ (64-1:Nat)=9223372036854775808:=by decide
 simp only [IntKind.wrap,IntKind.bits,IntKind.signed,Bool.true_and,decide_eq_true_eq,e,e'];split<;>omega
theorem tmod_range {a b:Int}(ha : -9223372036854775808≤a)(hb:a≤9223372036854775807) : -9223372036854775808≤a.tmod b∧a.tmod b≤9223372036854775807:=by
 have h1:(a.tmod b).natAbs≤a.natAbs:=by rw [Int.natAbs_tmod]; exact Nat.mod_le _ _
 rcases Int.le_total 0 a with h|h
 · have:=Int.tmod_nonneg b h; omega
 · have h2:a.tmod b≤0:=by
    have:=Int.tmod_nonneg (a:=-a) b (by omega)
    rw [Int.neg_tmod] at this; omega
   omega
theorem oneV_ok {k xn:Int}{xs:ByteArray}(h:OKV (0,xn,xs)):OKV (oneV k xn xs).1:=by
 obtain ⟨h1,h2,h3⟩:=h;simp only at h1 h2 h3;unfold oneV;split
 · refine ⟨?_,?_,esz⟩<;>simp only<;>split<;>decide
 · split
   · refine ⟨?_,?_,esz⟩<;>simp only<;>omega
   · split
     · exact okz
     · refine ⟨?_,?_,esz⟩<;>simp only<;>omega
theorem mulV_range (a b:Int) : -9223372036854775808≤(mulV a b).1∧(mulV a b).1≤9223372036854775807:=by
 unfold mulV; split
 · decide
 · exact wrap_range _
theorem numV_ok (k:Int){x y:Int}(h1 : -9223372036854775808≤x)(h2:x≤9223372036854775807) : -9223372036854775808≤(numV k x y).1∧(numV k x y).1≤9223372036854775807:=by
 unfold numV;split
 · exact wrap_range _
 · split
   · exact wrap_range _
   · split
     · exact mulV_range _ _
     · split
       · exact wrap_range _
       · exact tmod_range h1 h2
theorem twoV_ok {k:Int}{X Y:V3}(hX:OKV X):OKV (twoV k X Y).1:=by
 unfold twoV;split
 · split
   · split
     · exact okz
     · rename_i h
       refine ⟨by show (_:Int)≤0; decide,by show (0:Int)≤_; decide,?_⟩
       simp only [ByteArray.size_append]; omega
   · split
     · exact okz
     · split
       · have:=numV_ok k (y:=Y.2.1) hX.1 hX.2.1
         exact ⟨this.1,this.2,esz⟩
       · exact okz
 · refine ⟨?_,?_,esz⟩<;>simp only<;>split<;>decide
def PartsOK (ps:List PT)(vl:List WV):Prop:=(∀ x∈ps,OKV (partV x))∧∀ nm,OKV (getV vl nm)
theorem evF_ok {ps:List PT}{vl:List WV}(hp:PartsOK ps vl):∀ (f:Nat) (i:Int),OKV (evF ps vl f i).1
 | 0,_=>okz
 | f+1,i=>by
  unfold evF;split
  · exact okz
  · rename_i x hx
    have ih:=evF_ok hp f;unfold evB;split
    · exact hp.1 x (List.mem_of_getElem? hx)
    · split
      · exact hp.2 _
      · split
        · exact okz
        · split
          · exact oneV_ok (k:=x.k) ⟨(ih x.a).1,(ih x.a).2.1,(ih x.a).2.2⟩
          · split
            · split
              · exact ih _
              · exact ih _
            · split
              · split
                · exact ih _
                · exact ih _
              · split
                · split
                  · exact ih _
                  · exact ih _
                · split
                  · exact okz
                  · exact twoV_ok (ih _)
theorem c35 {c:FuncId}{ps:List PT}{vs:T}{i:Int}{v:V3}{e:Int}(hm:md c 35 = .pure)(hq:∃ h',call cx prim 35 [.t (mch ps vs),.t (iv i)] .empty=some (.tup [.t (val3 v),.t (iv e)],h'))(h:H) :
  callD (cx.at c) (call cx prim) 35 [.t (mch ps vs),.t (iv i)] h=some (.tup [.t (val3 v),.t (iv e)],h):=by
 obtain ⟨h',q⟩:=hq;exact pureT cb35 hm q rfl rfl
theorem toNat_cast {i:Int}(h:0≤i):((i.toNat:Nat):Int)=i:=by omega
theorem of_ok {ps:List PT}{vs:T}{vl:List WV}(hv:Slice vs (vl.map varW))(hl:vl.length≤2000000)(hp:PartsOK ps vl)(hs:Sides ps):∀ (f i:Nat),i<f→i<ps.length →
  ∃ h',call cx prim 35 [.t (mch ps vs),.t (iv i)] .empty=some (.tup [.t (val3 (evF ps vl f i).1),.t (iv (evF ps vl f i).2)],h')
 | 0,i,h,_=>absurd h (Nat.not_lt_zero _)
 | f+1,i,hi,hlt=>by
  obtain ⟨x,hx⟩:∃ x,ps[i]?=some x:=⟨ps[i],by simp [hlt]⟩
  have hc':vs.cells=[vs]:=hv.cells1;have hc:(T.slice (ps.map prP)).cells=[T.slice (ps.map prP)]:=rfl;obtain ⟨k1,k19,ha,hb,hcc⟩:=hs i x hx;have side:∀ j:Int,0≤j→j<i→∃ h',call cx prim 35 [.t (mch ps vs),.t (iv j)] .empty=some (.tup [.t (val3 (evF ps vl f j).1),.t (iv (evF ps vl f j).2)],h'):=fun j h0 hj=>by
    have:=of_ok hv hl hp hs f j.toNat (by omega) (by omega)
    rw [toNat_cast h0] at this;exact this
  rw [evF_at hx];unfold evB;by_cases e1:x.k=1
  · rw [if_pos e1]
    exact s35v ps vs i x hx e1
  rw [if_neg e1];by_cases e2:x.k=2
  · rw [if_pos e2]
    have:=s35n ps vs vl hv hl i x hx e2;rw [getT_V] at this;exact this
  rw [if_neg e2];obtain ⟨ha0,hai⟩:=ha (by omega)
  have hA:=side x.a ha0 hai;have okA:=evF_ok hp f x.a;generalize evF ps vl f x.a=A at hA okA ⊢;obtain ⟨A,eA⟩:=A;simp only at hA okA ⊢;by_cases e3:x.k=3∨x.k=4∨x.k=5
  · by_cases hE:eA≠0
    · rw [if_pos hE]
      obtain ⟨h',q⟩:=s63e (mch ps vs) x A.1 A.2.1 eA A.2.2 hE (fun h=>c35 (c:=63) rfl hA h) _ vs rfl hc hc'
      exact s35o ps vs hc' i x hx e3 z3 eA fun h=>pureT cb63 rfl q rfl rfl
    · rw [if_neg hE,if_pos e3]
      obtain rfl:eA=0:=by omega
      obtain ⟨h',q⟩:=s63 (mch ps vs) x A.1 A.2.1 A.2.2 e3 okA.1 okA.2.1 (Nat.le_trans okA.2.2 (by decide)) (fun h=>c35 (c:=63) rfl hA h) _ vs rfl hc hc'
      exact s35o ps vs hc' i x hx e3 _ _ fun h=>pureT cb63 rfl q rfl rfl
  obtain ⟨hb0,hbi⟩:=hb (by omega)
  have hB:=side x.b hb0 hbi;have okB:=evF_ok hp f x.b;generalize evF ps vl f x.b=B at hB okB ⊢;obtain ⟨B,eB⟩:=B;simp only at hB okB ⊢;rw [if_neg e3];by_cases e17:x.k=17
  · refine s35a ps vs hc' i x hx e17 _ _ fun h hmk o0 o3 hn=>?_
    by_cases hE:eA≠0
    · rw [if_pos hE]
      obtain ⟨h',q,kp⟩:=s64e (.slice (ps.map prP)) vs hc hc' x.a 61 62 [.ptr 0 0 0 1,.ptr 3 0 0 1] [] h hmk A.1 A.2.1 eA A.2.2 hE (fun h=>c35 (c:=64) rfl hA h)
      exact ⟨h',keepT cb64 rfl q,kp⟩
    · rw [if_neg hE,if_pos e17]
      obtain rfl:eA=0:=by omega
      obtain ⟨h',q,kp⟩:=s64 (.slice (ps.map prP)) vs hc hc' x.a 61 62 [.ptr 0 0 0 1,.ptr 3 0 0 1] [] h hmk A.1 A.2.1 A.2.2 (fun h=>c35 (c:=64) rfl hA h) (if A.2.1=1 then (B,eB) else (A,0)).1 (if A.2.1=1 then (B,eB) else (A,0)).2
       (fun h1 h' kp=>by
        rw [if_pos h1];exact k61 _ (mch ps vs) _ vs rfl x.b B.1 B.2.1 eB B.2.2 0 3 h' rfl (kp.2.1.trans hmk) (kp.obj o0 (by omega)) (kp.obj o3 (by omega)) (by have:=kp.1; omega) (by have:=kp.1; omega) hc hc' (fun h=>c35 (c:=61) rfl hB h))
       (fun h1 h' kp=>by
        rw [if_neg h1];exact k62 _ _ _ h' (kp.2.1.trans hmk))
      exact ⟨h',keepT cb64 rfl q,kp⟩
  rw [if_neg e17];by_cases e18:x.k=18
  · refine s35r ps vs hc' i x hx e18 _ _ fun h hmk o0 o3 hn=>?_
    by_cases hE:eA≠0
    · rw [if_pos hE]
      obtain ⟨h',q,kp⟩:=s64e (.slice (ps.map prP)) vs hc hc' x.a 62 61 [] [.ptr 0 0 0 1,.ptr 3 0 0 1] h hmk A.1 A.2.1 eA A.2.2 hE (fun h=>c35 (c:=64) rfl hA h)
      exact ⟨h',keepT cb64 rfl q,kp⟩
    · rw [if_neg hE,if_pos e18]
      obtain rfl:eA=0:=by omega
      obtain ⟨h',q,kp⟩:=s64 (.slice (ps.map prP)) vs hc hc' x.a 62 61 [] [.ptr 0 0 0 1,.ptr 3 0 0 1] h hmk A.1 A.2.1 A.2.2 (fun h=>c35 (c:=64) rfl hA h) (if A.2.1=1 then (A,0) else (B,eB)).1 (if A.2.1=1 then (A,0) else (B,eB)).2
       (fun h1 h' kp=>by
        rw [if_pos h1];exact k62 _ _ _ h' (kp.2.1.trans hmk))
       (fun h1 h' kp=>by
        rw [if_neg h1];exact k61 _ (mch ps vs) _ vs rfl x.b B.1 B.2.1 eB B.2.2 0 3 h' rfl (kp.2.1.trans hmk) (kp.obj o0 (by omega)) (kp.obj o3 (by omega)) (by have:=kp.1; omega) (by have:=kp.1; omega) hc hc' (fun h=>c35 (c:=61) rfl hB h))
      exact ⟨h',keepT cb64 rfl q,kp⟩
  rw [if_neg e18];by_cases e19:x.k=19
  · obtain ⟨hc0,hci⟩:=hcc e19
    have hC:=side x.c hc0 hci;generalize evF ps vl f x.c=C at hC ⊢;obtain ⟨C,eC⟩:=C;simp only at hC ⊢;refine s35i ps vs hc' i x hx e19 _ _ fun h hmk o0 o3 o4 hn=>?_
    by_cases hE:eA≠0
    · rw [if_pos hE]
      obtain ⟨h',q,kp⟩:=s64e (.slice (ps.map prP)) vs hc hc' x.a 61 61 [.ptr 0 0 0 1,.ptr 3 0 0 1] [.ptr 0 0 0 1,.ptr 4 0 0 1] h hmk A.1 A.2.1 eA A.2.2 hE (fun h=>c35 (c:=64) rfl hA h)
      exact ⟨h',keepT cb64 rfl q,kp⟩
    · rw [if_neg hE,if_pos e19]
      obtain rfl:eA=0:=by omega
      obtain ⟨h',q,kp⟩:=s64 (.slice (ps.map prP)) vs hc hc' x.a 61 61 [.ptr 0 0 0 1,.ptr 3 0 0 1] [.ptr 0 0 0 1,.ptr 4 0 0 1] h hmk A.1 A.2.1 A.2.2 (fun h=>c35 (c:=64) rfl hA h) (if A.2.1=1 then (B,eB) else (C,eC)).1 (if A.2.1=1 then (B,eB) else (C,eC)).2
       (fun h1 h' kp=>by
        rw [if_pos h1];exact k61 _ (mch ps vs) _ vs rfl x.b B.1 B.2.1 eB B.2.2 0 3 h' rfl (kp.2.1.trans hmk) (kp.obj o0 (by omega)) (kp.obj o3 (by omega)) (by have:=kp.1; omega) (by have:=kp.1; omega) hc hc' (fun h=>c35 (c:=61) rfl hB h))
       (fun h1 h' kp=>by
        rw [if_neg h1];exact k61 _ (mch ps vs) _ vs rfl x.c C.1 C.2.1 eC C.2.2 0 4 h' rfl (kp.2.1.trans hmk) (kp.obj o0 (by omega)) (kp.obj o4 (by omega)) (by have:=kp.1; omega) (by have:=kp.1; omega) hc hc' (fun h=>c35 (c:=61) rfl hC h))
      exact ⟨h',keepT cb64 rfl q,kp⟩
  rw [if_neg e19];have hk:6≤x.k∧x.k≤16:=by omega
  by_cases hE:eA≠0
  · rw [if_pos hE]
    obtain ⟨h1,q1⟩:=s106e (.slice (ps.map prP)) vs x.k x.a x.b x.c x.vk x.vn x.at_ x.s x.nm A.1 A.2.1 eA A.2.2 hE (fun h=>c35 (c:=106) rfl hA h)
    obtain ⟨h',q⟩:=s65e (.slice (ps.map prP)) vs hc hc' x A.1 A.2.1 0 0 A.2.2 ⟨#[]⟩ eA hE (fun h=>pureT cb106 rfl q1 rfl rfl)
    exact s35t ps vs hc' i x hx hk z3 eA fun h=>pureT cb65 rfl q rfl rfl
  · rw [if_neg hE]
    obtain rfl:eA=0:=by omega
    obtain ⟨h1,q1⟩:=s106 (.slice (ps.map prP)) vs x.k x.a x.b x.c x.vk x.vn x.at_ x.s x.nm A.1 A.2.1 A.2.2 B.1 B.2.1 eB B.2.2 (fun h=>c35 (c:=106) rfl hA h) (fun h=>c35 (c:=106) rfl hB h)
    by_cases hE2:eB≠0
    · rw [if_pos hE2]
      obtain ⟨h',q⟩:=s65e (.slice (ps.map prP)) vs hc hc' x A.1 A.2.1 B.1 B.2.1 A.2.2 B.2.2 eB hE2 (fun h=>pureT cb106 rfl q1 rfl rfl)
      exact s35t ps vs hc' i x hx hk z3 eB fun h=>pureT cb65 rfl q rfl rfl
    · rw [if_neg hE2]
      obtain rfl:eB=0:=by omega
      obtain ⟨h',q⟩:=s65 (.slice (ps.map prP)) vs hc hc' x A B okA.2.2 okB.2.2 (fun h=>pureT cb106 rfl q1 rfl rfl)
      exact s35t ps vs hc' i x hx hk _ _ fun h=>pureT cb65 rfl q rfl rfl
abbrev DV:=ByteArray × Int
abbrev decT (d:DV):T:=.agg [.str d.1,.int .i64 d.2]
abbrev dcl (v:WV):DV:=(v.1,v.2.1)
abbrev dcT (v:WV):T:=decT (dcl v)
def WfH (h:H):Prop:=∀ id o,h.objs id=some o→id<h.next
theorem WfH.push {h:H}(hw:WfH h)(o:AObj):WfH (h.push o):=fun id p hp=>by
 simp only [H.push,upd] at hp ⊢;split at hp
 · omega
 · have:=hw id p hp; omega
theorem take_succ_map {α β:Type}{l:List α}{k:Nat}{a:α}(f:α→β)(h:l[k]?=some a):(l.take (k+1)).map f=(l.take k).map f ++ [f a]:=by
 rw [List.take_add_one,h]; simp
theorem app17 {h:H}{d:D}{vs:List WV}{k:Nat}{v:WV}(hv:vs[k]?=some v)(hl:vs.length≤2000000)(hb:TBuf h 35 2 d ((vs.take k).map dcT))(hlt:WfH h) :
  ∃ d' h',appendD Tryz.prog h 32 d (.t (.slice [dcT v]))=some (d',h')∧TBuf h' 35 2 d' ((vs.take (k+1)).map dcT)∧WfH h':=by
 rw [take_succ_map dcT hv];obtain ⟨a',h',h1,h2,_,h3⟩:=TBuf.append (P:=Tryz.prog) (t:=32) (x:=.t (.slice [dcT v])) (ys:=[dcT v]) hb tk32 sz35 byt35 zero35 rfl (by decide) rfl (by simp) (by simp; omega) (by simp; omega) hlt
 exact ⟨a',h',h1,h2,h3⟩
theorem TBuf.push {h:H}{e:TypeId}{s:Nat}{d:D}{xs:List T}{o:AObj}(hb:TBuf h e s d xs):TBuf (h.push o) e s d xs:=by
 rcases hb with h1|⟨id,h1,h2,h3⟩
 · exact .inl h1
 · exact .inr ⟨id,h1,by simp only [H.push,upd]; rw [if_neg (by omega)]; exact h2,by simp only [H.push]; omega⟩
theorem s17 {x:T}{vs:List WV}(hx:Slice x (vs.map varW))(hl:vs.length≤2000000):Ret (call cx prim 17 [.t x] .empty) fun d h'=>TBuf h' 35 2 d (vs.map dcT):=by
 rw [call_run (cx:=cx) rfl Tryz.func17 ok17 nd17 rfl (lbe rfl) rfl rfl];have hlx:=fun hh=>hx.len (P:=Tryz.prog) (t:=23) tk23 hh
 rw [List.length_map] at hlx;simp -implicitDefEqProofs (disch:=omega) [hlx];generalize hLp:loopω _ _=L;obtain ⟨x',⟨nn,env,h2⟩,rfl,rfl,hq,hd⟩:=loop_uses hLp vs.length
  (fun k st=>st.n=23∧st.env 6 = .t x∧st.env 7 = .t (.int .i64 vs.length)∧st.env 8 = .t (.int .i64 k)∧TBuf st.h 35 2 (st.env 3) ((vs.take k).map dcT)∧WfH st.h)
  (fun x' st=>st.n=23∧x' = .exit 0∧TBuf st.h 35 2 (st.env 3) (vs.map dcT))
  (by refine ⟨rfl,?_⟩; simp; exact ⟨.nil,noObj⟩) (by
  rintro k ⟨nn,env,h2⟩ hk ⟨rfl,e6,e7,e8,hb,hw⟩;simp only at e6 e7 e8 hb hw;rw [LB_run nd17 rfl];by_cases hk':k<vs.length
  · obtain ⟨v,hv⟩:∃ v,vs[k]?=some v:=⟨vs[k],by simp [hk']⟩
    have hxe:x = .slice (vs.map varW):=hx.eq_of_ne (by intro e; have:=congrArg List.length e; simp at this; subst this; simp at hk')
    subst hxe;have hg:(vs.map varW)[k]?=some (varW v):=by rw [List.getElem?_map,hv]; rfl
    have c1:(k:Int)<vs.length:=by omega
    generalize hD:env 3=d at hb;obtain ⟨d',h',q,hb',hw'⟩:=app17 hv hl (TBuf.push (o:=.row 38 4 [.t (varW v)]) hb) (hw.push _);simp -implicitDefEqProofs (disch:=omega) [-List.getElem?_map,e6,e7,e8,hg,hD,litSliceD,push_set,q,Wp_some];exact ⟨hk',by rw [←List.map_take]; exact hb',hw'⟩
  · obtain rfl:k=vs.length:=by omega
    rw [List.take_length] at hb;simp -implicitDefEqProofs (disch:=omega) [e6,e7,e8,Wp_some];exact hb)
 simp only at hq hd;subst hq;simp -implicitDefEqProofs (disch:=omega) [];exact hd
theorem c17 {x:T}{vs:List WV}(hx:Slice x (vs.map varW))(hl:vs.length≤2000000):∃ y,Slice y (vs.map dcT)∧∀ (c:FuncId) (h:H),md c 17 = .pure→callD (cx.at c) (call cx prim) 17 [.t x] h=some (.t y,h):=by
 obtain ⟨d,h',q,hb⟩:=s17 hx hl;obtain ⟨y,h1,h2⟩:=hb.snapOut;exact ⟨y,h2,fun c h hm=>pureT cb17 hm q h1 rfl⟩
end Go.Proofs.YtaldobgfbkllfaaGreatDoor

namespace Go.Proofs.YtaldobgfbkllfaaGreatDoor
open Vai
def declF (ds:List DV)(nm:ByteArray):Option DV:=ds.find? fun d=>eqS d.1 nm
def declK (ds:List DV)(nm:ByteArray):Int:=match declF ds nm with|some d=>d.2|none=>0
def kind3 (k:Int):Int:=if 1≤k∧k≤3 then k else 0
theorem findD_drop {ds:List DV}{nm:ByteArray}{k:Nat}{v:DV}(hv:ds[k]?=some v):(ds.drop k).find? (fun v=>eqS v.1 nm)=if eqS v.1 nm=true then some v else (ds.drop (k+1)).find? fun v=>eqS v.1 nm:=by
 have hlt:k<ds.length:=by
  apply Classical.byContradiction;intro hn;rw [List.getElem?_eq_none (by omega)] at hv
  cases hv
 rw [List.drop_eq_getElem_cons hlt];rw [List.getElem?_eq_getElem hlt] at hv;rw [Option.some.inj hv,List.find?_cons];cases eqS v.1 nm<;>rfl
end Go.Proofs.YtaldobgfbkllfaaGreatDoor
namespace Go.Proofs.YtaldobgfbkllfaaGreatDoor.P0
open Vai
variable [Gl]
set_option maxHeartbeats 0
set_option maxRecDepth 100000
theorem c79 {c:FuncId}(b:Bool)(k:Int)(h:H)(hm:md c 79 = .pure):callD (cx.at c) (call cx prim0) 79 [.t (.bool b),.t (iv k)] h=some (.t (iv (if b then k else 0)),h):=by
 have:∃ h',call cx prim0 79 [.t (.bool b),.t (iv k)] .empty=some (.t (iv (if b then k else 0)),h'):=by
  rw [call_run (cx:=cx) rfl Tryz.func79 ok79 nd79 rfl (lbe rfl) rfl rfl];cases b<;>simp -implicitDefEqProofs (disch:=omega)
 obtain ⟨h',q⟩:=this;exact pureT cb79 hm q rfl rfl
theorem k130 (d:DV)(nm:ByteArray)(id:Nat)(h:H)(hi:id<h.next)(ho:h.objs id=some (.row 9 1 [.t (.str nm)]))(hmk:h.marks=[]) :
  callD (cx.at 129) (call cx prim0) 130 [.t (decT d),.ptr id 0 0 1] h=some (.t (.bool (eqS d.1 nm)),h.push (.row 35 2 [.t (decT d)])):=by
 have:call cx prim0 130 [.t (decT d),.ptr id 0 0 1] h=some (.t (.bool (eqS d.1 nm)),h.push (.row 35 2 [.t (decT d)])):=by
  rw [call_run (cx:=cx) rfl Tryz.func130 ok130 nd130 rfl (lbe rfl) rfl rfl];simp -implicitDefEqProofs (disch:=omega) [ho,ne0 hi,hmk]
 exact keepT cb130 rfl this
theorem s129 {y:T}{ds:List DV}{nm:ByteArray}(hy:Slice y (ds.map decT))(hl:ds.length≤2000000)(id:Nat)(h:H)(hi:id<h.next)(ho:h.objs id=some (.row 9 1 [.t (.str nm)]))(hmk:h.marks=[]) :
   ∃ k h',call cx prim0 129 [.t y,.func (.func 130) [] [.ptr id 0 0 1]] h=some (.t (iv k),h')∧Keeps h h'∧(match declF ds nm with|none=>k = -1|some d=>0≤k∧ds[k.toNat]?=some d):=by
 rw [call_run (cx:=cx) rfl Tryz.func129 ok129 nd129 rfl (lbe rfl) rfl rfl];have hlx:=fun hh=>hy.len (P:=Tryz.prog) (t:=32) tk32 hh
 rw [List.length_map] at hlx;simp -implicitDefEqProofs (disch:=omega) [hlx];generalize hLp:loopω _ _=L;obtain ⟨x',⟨nn,env,h2⟩,rfl,rfl,hq⟩:=loop_uses hLp ds.length
   (fun k st=>st.n=19∧st.env 0 = .t y∧st.env 1 = .func (.func 130) [] [.ptr id 0 0 1]∧st.env 7 = .t (.int .i64 ds.length)∧st.env 8 = .t (.int .i64 k)∧Keeps h st.h∧(ds.drop k).find? (fun v=>eqS v.1 nm)=declF ds nm)
   (fun x' st=>st.n=19∧Keeps h st.h∧((x' = .exit 0∧declF ds nm=none)∨(x' = .ret∧∃ k d,st.env 4 = .t (.int .i64 (k:Nat))∧declF ds nm=some d∧ds[k]?=some d)))
   (by refine ⟨rfl,?_⟩; simp [declF,Keeps.refl]) (by
   rintro k ⟨nn,env,h2⟩ hk ⟨rfl,e0,e1,e7,e8,kp,hb⟩;simp only at e0 e1 e7 e8 kp;rw [LB_run nd129 rfl];by_cases hk':k<ds.length
   · obtain ⟨v,hv⟩:∃ v,ds[k]?=some v:=⟨ds[k],by simp [hk']⟩
     have hxe:y = .slice (ds.map decT):=hy.eq_of_ne (by intro e; have:=congrArg List.length e; simp at this; subst this; simp at hk')
     subst hxe;have hg:(ds.map decT)[k]?=some (decT v):=by rw [List.getElem?_map,hv]; rfl
     have c1:(k:Int)<ds.length:=by omega
     rw [findD_drop hv] at hb;have q:=k130 v nm id h2 (Nat.lt_of_lt_of_le hi kp.1) (kp.obj ho hi) (kp.2.1.trans hmk);have kp2:=kp.trans (Keeps.push h2 (.row 35 2 [.t (decT v)]))
     cases he:eqS v.1 nm with
     | true =>
      rw [he,if_pos rfl] at hb;rw [he] at q;simp -implicitDefEqProofs (disch:=omega) [-List.getElem?_map,e0,e1,e7,e8,hg,q,Wp_some];exact ⟨kp2,k,rfl,v.1,v.2,hb.symm,hv⟩
     | false =>
      rw [he,if_neg (by simp)] at hb
      rw [he] at q;simp -implicitDefEqProofs (disch:=omega) [-List.getElem?_map,e0,e1,e7,e8,hg,q,Wp_some];exact ⟨hk',kp2,hb⟩
   · obtain rfl:k=ds.length:=by omega
     rw [List.drop_length] at hb;simp -implicitDefEqProofs (disch:=omega) [e0,e1,e7,e8,hlx,Wp_some];exact ⟨kp,hb.symm⟩)
 obtain ⟨kp,hq⟩:=hq;simp only at kp;rcases hq with ⟨rfl,hb⟩|⟨rfl,k,d,e4,hb,hd⟩
 · rw [hb]
   simp -implicitDefEqProofs (disch:=omega) [];exact ⟨_,_,⟨rfl,rfl⟩,kp,rfl⟩
 · simp only at e4
   rw [hb];simp -implicitDefEqProofs (disch:=omega) [e4];exact ⟨_,_,⟨rfl,rfl⟩,kp,by simp,by simpa using hd⟩
end Go.Proofs.YtaldobgfbkllfaaGreatDoor.P0

namespace Go.Proofs.YtaldobgfbkllfaaGreatDoor
open Vai
def usesS (x:PT):List Int:=if x.k=19 then [x.a,x.b,x.c] else if 6≤x.k∧x.k≤18 then [x.a,x.b] else if 3≤x.k∧x.k≤5 then [x.a] else []
def kdS (x:PT)(ds:List DV)(K:Int→Int):Int :=
 if x.k=1 then (if mayV x.vk x.vn x.s then x.vk else 0)
 else if x.k=2 then kind3 (declK ds x.nm)
 else if x.k=3 then (if K x.a=1 then 1 else 0)
 else if x.k=4 then (if K x.a=2 then 2 else 0)
 else if x.k=5 then (if K x.a=3 then 1 else 0)
 else if x.k=6∨x.k=7∨x.k=8∨x.k=10 then (if K x.a=1∧K x.b=1 then 1 else 0)
 else if x.k=9 then (if K x.a=K x.b∧(K x.a=1∨K x.a=3) then K x.a else 0)
 else if x.k=11∨x.k=12 then (if K x.a=K x.b∧0<K x.a then 2 else 0)
 else if x.k=13∨x.k=14∨x.k=15∨x.k=16 then (if K x.a=K x.b∧(K x.a=1∨K x.a=3) then 2 else 0)
 else if x.k=17∨x.k=18 then (if K x.a=2∧K x.b=2 then 2 else 0)
 else if x.k=19 then (if K x.a=2∧K x.b=K x.c then K x.b else 0)
 else 0
end Go.Proofs.YtaldobgfbkllfaaGreatDoor
namespace Go.Proofs.YtaldobgfbkllfaaGreatDoor.P0
open Vai
variable [Gl]
set_option maxHeartbeats 0
set_option maxRecDepth 100000
theorem c80 {c:FuncId}{y:T}{ds:List DV}{nm:ByteArray}(hy:Slice y (ds.map decT))(hl:ds.length≤2000000)(h:H)(hm:md c 80 = .pure):callD (cx.at c) (call cx prim0) 80 [.t y,.t (.str nm)] h=some (.t (iv (declK ds nm)),h):=by
 have:∃ h',call cx prim0 80 [.t y,.t (.str nm)] .empty=some (.t (iv (declK ds nm)),h'):=by
  rw [call_run (cx:=cx) rfl Tryz.func80 ok80 nd80 rfl (lbe rfl) rfl rfl];obtain ⟨k,h',q,kp,hk⟩:=s129 hy hl 0 (H.empty.push (.row 9 1 [.t (.str nm)])) (by simp [H.push,H.empty]) rfl rfl
  have q':=keepT (cc:=cx.at 80) cb129 rfl q;unfold declK
  cases hd:declF ds nm with
  | none =>
   rw [hd] at hk;subst hk;simp -implicitDefEqProofs (disch:=omega) [q']
  | some d =>
   rw [hd] at hk;obtain ⟨h0,hg⟩:=hk;have hne:ds≠[]:=fun e=>by rw [e] at hg; simp at hg
   have hxe:y = .slice (ds.map decT):=hy.eq_of_ne (by simpa using hne)
   subst hxe;have hg':(ds.map decT)[k.toNat]?=some (decT d):=by rw [List.getElem?_map,hg]; rfl
   simp -implicitDefEqProofs (disch:=omega) [-List.getElem?_map,q',h0,hg']
 obtain ⟨h',q⟩:=this;exact pureT cb80 hm q rfl rfl
section
variable {x:PT}{fo:FuncId}{ko:Nat}{K:Int→Int}{b p:Nat}{h:H}(hb:h.objs b=some (.row 90 1 [.func (.func fo) [] [.ptr ko 0 0 1]]))(hp:h.objs p=some (.row 57 9 [.t (prP x)]))
include hb hp
theorem k77 (hof:callD (cx.at 77) (call cx prim0) fo [.t (iv x.a),.ptr ko 0 0 1] h=some (.t (iv (K x.a)),h)):callD (cx.at 41) (call cx prim0) 77 [.ptr b 0 0 1,.ptr p 0 0 1] h=some (.t (iv (K x.a)),h):=by
 have:call cx prim0 77 [.ptr b 0 0 1,.ptr p 0 0 1] h=some (.t (iv (K x.a)),h):=by
  rw [call_run (cx:=cx) rfl Tryz.func77 ok77 nd77 rfl (lbe rfl) rfl rfl];simp -implicitDefEqProofs (disch:=omega) [hb,hp,hof]
 exact keepT cb77 rfl this
theorem k78 (hof:callD (cx.at 78) (call cx prim0) fo [.t (iv x.b),.ptr ko 0 0 1] h=some (.t (iv (K x.b)),h)):callD (cx.at 41) (call cx prim0) 78 [.ptr b 0 0 1,.ptr p 0 0 1] h=some (.t (iv (K x.b)),h):=by
 have:call cx prim0 78 [.ptr b 0 0 1,.ptr p 0 0 1] h=some (.t (iv (K x.b)),h):=by
  rw [call_run (cx:=cx) rfl Tryz.func78 ok78 nd78 rfl (lbe rfl) rfl rfl];simp -implicitDefEqProofs (disch:=omega) [hb,hp,hof]
 exact keepT cb78 rfl this
end
abbrev H41 (h:H)(x:PT)(fo:FuncId)(ko:Nat):H:=(h.push (.row 57 9 [.t (prP x)])).push (.row 90 1 [.func (.func fo) [] [.ptr ko 0 0 1]])
theorem s41_1 {x:PT}{y:T}{fo:FuncId}{ko:Nat}{h:H}(hk:x.k=1)(hmk:h.marks=[])(hs:x.s.size≤1000000000) :
  call cx prim0 41 [.t (prP x),.t y,.func (.func fo) [] [.ptr ko 0 0 1]] h=some (.t (iv (if mayV x.vk x.vn x.s then x.vk else 0)),H41 h x fo ko):=by
 rw [call_run (cx:=cx) rfl Tryz.func41 ok41 nd41 rfl (lbe rfl) rfl rfl];have q1:=fun h=>c59 (c:=41) x.vk x.vn x.s h hs rfl
 have q2:=fun b h=>c79 (c:=41) b x.vk h rfl
 obtain ⟨k,a,b,c,vk,vn,s,nm,at_⟩:=x;simp only at hk;subst hk;simp -implicitDefEqProofs (disch:=omega) [q1,q2,md,hmk]
end Go.Proofs.YtaldobgfbkllfaaGreatDoor.P0

namespace Go.Proofs.YtaldobgfbkllfaaGreatDoor.P0
open Vai
variable [Gl]
set_option maxHeartbeats 0
set_option maxRecDepth 100000
theorem H41_b (h:H)(x:PT)(fo:FuncId)(ko:Nat):(H41 h x fo ko).objs (h.next+1)=some (.row 90 1 [.func (.func fo) [] [.ptr ko 0 0 1]]):=by simp [H.push,upd]
theorem H41_p (h:H)(x:PT)(fo:FuncId)(ko:Nat):(H41 h x fo ko).objs h.next=some (.row 57 9 [.t (prP x)]):=by simp [H.push,upd]
theorem s41_3 {x:PT}{y:T}{fo:FuncId}{ko:Nat}{h:H}{K:Int→Int}(hk:x.k=3)(hmk:h.marks=[])
  (hA:callD (cx.at 77) (call cx prim0) fo [.t (iv x.a),.ptr ko 0 0 1] (H41 h x fo ko)=some (.t (iv (K x.a)),H41 h x fo ko)) :
  call cx prim0 41 [.t (prP x),.t y,.func (.func fo) [] [.ptr ko 0 0 1]] h=some (.t (iv (if eqI (K x.a) 1 then 1 else 0)),H41 h x fo ko):=by
 rw [call_run (cx:=cx) rfl Tryz.func41 ok41 nd41 rfl (lbe rfl) rfl rfl];have q2:=fun b k h=>c79 (c:=41) b k h rfl
 have qa:=k77 (K:=K) (H41_b h x fo ko) (H41_p h x fo ko) hA;generalize K x.a=A at qa ⊢;obtain ⟨k,a,b,c,vk,vn,s,nm,at_⟩:=x;simp only at hk;subst hk;cases e0:eqI A 1 <;>
 simp -implicitDefEqProofs (disch:=omega) [q2,qa,e0,md,hmk]
theorem s41_4 {x:PT}{y:T}{fo:FuncId}{ko:Nat}{h:H}{K:Int→Int}(hk:x.k=4)(hmk:h.marks=[])
  (hA:callD (cx.at 77) (call cx prim0) fo [.t (iv x.a),.ptr ko 0 0 1] (H41 h x fo ko)=some (.t (iv (K x.a)),H41 h x fo ko)) :
  call cx prim0 41 [.t (prP x),.t y,.func (.func fo) [] [.ptr ko 0 0 1]] h=some (.t (iv (if eqI (K x.a) 2 then 2 else 0)),H41 h x fo ko):=by
 rw [call_run (cx:=cx) rfl Tryz.func41 ok41 nd41 rfl (lbe rfl) rfl rfl];have q2:=fun b k h=>c79 (c:=41) b k h rfl
 have qa:=k77 (K:=K) (H41_b h x fo ko) (H41_p h x fo ko) hA;generalize K x.a=A at qa ⊢;obtain ⟨k,a,b,c,vk,vn,s,nm,at_⟩:=x;simp only at hk;subst hk;cases e0:eqI A 2 <;>
 simp -implicitDefEqProofs (disch:=omega) [q2,qa,e0,md,hmk]
theorem s41_5 {x:PT}{y:T}{fo:FuncId}{ko:Nat}{h:H}{K:Int→Int}(hk:x.k=5)(hmk:h.marks=[])
  (hA:callD (cx.at 77) (call cx prim0) fo [.t (iv x.a),.ptr ko 0 0 1] (H41 h x fo ko)=some (.t (iv (K x.a)),H41 h x fo ko)) :
  call cx prim0 41 [.t (prP x),.t y,.func (.func fo) [] [.ptr ko 0 0 1]] h=some (.t (iv (if eqI (K x.a) 3 then 1 else 0)),H41 h x fo ko):=by
 rw [call_run (cx:=cx) rfl Tryz.func41 ok41 nd41 rfl (lbe rfl) rfl rfl];have q2:=fun b k h=>c79 (c:=41) b k h rfl
 have qa:=k77 (K:=K) (H41_b h x fo ko) (H41_p h x fo ko) hA;generalize K x.a=A at qa ⊢;obtain ⟨k,a,b,c,vk,vn,s,nm,at_⟩:=x;simp only at hk;subst hk;cases e0:eqI A 3 <;>
 simp -implicitDefEqProofs (disch:=omega) [q2,qa,e0,md,hmk]
theorem s41_6 {x:PT}{y:T}{fo:FuncId}{ko:Nat}{h:H}{K:Int→Int}(hk:x.k=6∨x.k=7∨x.k=8∨x.k=10)(hmk:h.marks=[])
  (hA:callD (cx.at 77) (call cx prim0) fo [.t (iv x.a),.ptr ko 0 0 1] (H41 h x fo ko)=some (.t (iv (K x.a)),H41 h x fo ko))
  (hB:callD (cx.at 78) (call cx prim0) fo [.t (iv x.b),.ptr ko 0 0 1] (H41 h x fo ko)=some (.t (iv (K x.b)),H41 h x fo ko)) :
  call cx prim0 41 [.t (prP x),.t y,.func (.func fo) [] [.ptr ko 0 0 1]] h=some (.t (iv (if eqI (K x.a) 1&&eqI (K x.b) 1 then 1 else 0)),H41 h x fo ko):=by
 rw [call_run (cx:=cx) rfl Tryz.func41 ok41 nd41 rfl (lbe rfl) rfl rfl];have q2:=fun b k h=>c79 (c:=41) b k h rfl
 have qa:=k77 (K:=K) (H41_b h x fo ko) (H41_p h x fo ko) hA;have qb:=k78 (K:=K) (H41_b h x fo ko) (H41_p h x fo ko) hB;generalize K x.a=A at qa ⊢;generalize K x.b=B at qb ⊢;obtain ⟨k,a,b,c,vk,vn,s,nm,at_⟩:=x;simp only at hk;rcases hk with rfl|rfl|rfl|rfl<;>cases e0:eqI A 1<;>cases e1:eqI B 1 <;>
 simp -implicitDefEqProofs (disch:=omega) [q2,qa,qb,e0,e1,md,hmk]
theorem s41_9 {x:PT}{y:T}{fo:FuncId}{ko:Nat}{h:H}{K:Int→Int}(hk:x.k=9)(hmk:h.marks=[])
  (hA:callD (cx.at 77) (call cx prim0) fo [.t (iv x.a),.ptr ko 0 0 1] (H41 h x fo ko)=some (.t (iv (K x.a)),H41 h x fo ko))
  (hB:callD (cx.at 78) (call cx prim0) fo [.t (iv x.b),.ptr ko 0 0 1] (H41 h x fo ko)=some (.t (iv (K x.b)),H41 h x fo ko)) :
  call cx prim0 41 [.t (prP x),.t y,.func (.func fo) [] [.ptr ko 0 0 1]] h=some (.t (iv (if eqI (K x.a) (K x.b) && !eqI (K x.a) 2 then K x.a else 0)),H41 h x fo ko):=by
 rw [call_run (cx:=cx) rfl Tryz.func41 ok41 nd41 rfl (lbe rfl) rfl rfl];have q2:=fun b k h=>c79 (c:=41) b k h rfl
 have qa:=k77 (K:=K) (H41_b h x fo ko) (H41_p h x fo ko) hA;have qb:=k78 (K:=K) (H41_b h x fo ko) (H41_p h x fo ko) hB;generalize K x.a=A at qa ⊢;generalize K x.b=B at qb ⊢;obtain ⟨k,a,b,c,vk,vn,s,nm,at_⟩:=x;simp only at hk;subst hk;cases e0:eqI A B<;>cases e1:eqI A 2 <;>
 simp -implicitDefEqProofs (disch:=omega) [q2,qa,qb,e0,e1,md,hmk]
theorem s41_11 {x:PT}{y:T}{fo:FuncId}{ko:Nat}{h:H}{K:Int→Int}(hk:x.k=11∨x.k=12)(hmk:h.marks=[])
  (hA:callD (cx.at 77) (call cx prim0) fo [.t (iv x.a),.ptr ko 0 0 1] (H41 h x fo ko)=some (.t (iv (K x.a)),H41 h x fo ko))
  (hB:callD (cx.at 78) (call cx prim0) fo [.t (iv x.b),.ptr ko 0 0 1] (H41 h x fo ko)=some (.t (iv (K x.b)),H41 h x fo ko)) :
  call cx prim0 41 [.t (prP x),.t y,.func (.func fo) [] [.ptr ko 0 0 1]] h=some (.t (iv (if eqI (K x.a) (K x.b) then 2 else 0)),H41 h x fo ko):=by
 rw [call_run (cx:=cx) rfl Tryz.func41 ok41 nd41 rfl (lbe rfl) rfl rfl];have q2:=fun b k h=>c79 (c:=41) b k h rfl
 have qa:=k77 (K:=K) (H41_b h x fo ko) (H41_p h x fo ko) hA;have qb:=k78 (K:=K) (H41_b h x fo ko) (H41_p h x fo ko) hB;generalize K x.a=A at qa ⊢;generalize K x.b=B at qb ⊢;obtain ⟨k,a,b,c,vk,vn,s,nm,at_⟩:=x;simp only at hk;rcases hk with rfl|rfl<;>cases e0:eqI A B <;>
 simp -implicitDefEqProofs (disch:=omega) [q2,qa,qb,e0,md,hmk]
theorem s41_13 {x:PT}{y:T}{fo:FuncId}{ko:Nat}{h:H}{K:Int→Int}(hk:x.k=13∨x.k=14∨x.k=15∨x.k=16)(hmk:h.marks=[])
  (hA:callD (cx.at 77) (call cx prim0) fo [.t (iv x.a),.ptr ko 0 0 1] (H41 h x fo ko)=some (.t (iv (K x.a)),H41 h x fo ko))
  (hB:callD (cx.at 78) (call cx prim0) fo [.t (iv x.b),.ptr ko 0 0 1] (H41 h x fo ko)=some (.t (iv (K x.b)),H41 h x fo ko)) :
  call cx prim0 41 [.t (prP x),.t y,.func (.func fo) [] [.ptr ko 0 0 1]] h=some (.t (iv (if eqI (K x.a) (K x.b) && !eqI (K x.a) 2 then 2 else 0)),H41 h x fo ko):=by
 rw [call_run (cx:=cx) rfl Tryz.func41 ok41 nd41 rfl (lbe rfl) rfl rfl];have q2:=fun b k h=>c79 (c:=41) b k h rfl
 have qa:=k77 (K:=K) (H41_b h x fo ko) (H41_p h x fo ko) hA;have qb:=k78 (K:=K) (H41_b h x fo ko) (H41_p h x fo ko) hB;generalize K x.a=A at qa ⊢;generalize K x.b=B at qb ⊢;obtain ⟨k,a,b,c,vk,vn,s,nm,at_⟩:=x;simp only at hk;rcases hk with rfl|rfl|rfl|rfl<;>cases e0:eqI A B<;>cases e1:eqI A 2 <;>
 simp -implicitDefEqProofs (disch:=omega) [q2,qa,qb,e0,e1,md,hmk]
theorem s41_17 {x:PT}{y:T}{fo:FuncId}{ko:Nat}{h:H}{K:Int→Int}(hk:x.k=17∨x.k=18)(hmk:h.marks=[])
  (hA:callD (cx.at 77) (call cx prim0) fo [.t (iv x.a),.ptr ko 0 0 1] (H41 h x fo ko)=some (.t (iv (K x.a)),H41 h x fo ko))
  (hB:callD (cx.at 78) (call cx prim0) fo [.t (iv x.b),.ptr ko 0 0 1] (H41 h x fo ko)=some (.t (iv (K x.b)),H41 h x fo ko)) :
  call cx prim0 41 [.t (prP x),.t y,.func (.func fo) [] [.ptr ko 0 0 1]] h=some (.t (iv (if eqI (K x.a) 2&&eqI (K x.b) 2 then 2 else 0)),H41 h x fo ko):=by
 rw [call_run (cx:=cx) rfl Tryz.func41 ok41 nd41 rfl (lbe rfl) rfl rfl];have q2:=fun b k h=>c79 (c:=41) b k h rfl
 have qa:=k77 (K:=K) (H41_b h x fo ko) (H41_p h x fo ko) hA;have qb:=k78 (K:=K) (H41_b h x fo ko) (H41_p h x fo ko) hB;generalize K x.a=A at qa ⊢;generalize K x.b=B at qb ⊢;obtain ⟨k,a,b,c,vk,vn,s,nm,at_⟩:=x;simp only at hk;rcases hk with rfl|rfl<;>cases e0:eqI A 2<;>cases e1:eqI B 2 <;>
 simp -implicitDefEqProofs (disch:=omega) [q2,qa,qb,e0,e1,md,hmk]
theorem s41_19 {x:PT}{y:T}{fo:FuncId}{ko:Nat}{h:H}{K:Int→Int}(hk:x.k=19)(hmk:h.marks=[])
  (hA:callD (cx.at 77) (call cx prim0) fo [.t (iv x.a),.ptr ko 0 0 1] (H41 h x fo ko)=some (.t (iv (K x.a)),H41 h x fo ko))
  (hB:callD (cx.at 78) (call cx prim0) fo [.t (iv x.b),.ptr ko 0 0 1] (H41 h x fo ko)=some (.t (iv (K x.b)),H41 h x fo ko))
  (hC:callD (cx.at 41) (call cx prim0) fo [.t (iv x.c),.ptr ko 0 0 1] (H41 h x fo ko)=some (.t (iv (K x.c)),H41 h x fo ko)) :
  call cx prim0 41 [.t (prP x),.t y,.func (.func fo) [] [.ptr ko 0 0 1]] h=some (.t (iv (if eqI (K x.a) 2&&eqI (K x.b) (K x.c) then K x.b else 0)),H41 h x fo ko):=by
 rw [call_run (cx:=cx) rfl Tryz.func41 ok41 nd41 rfl (lbe rfl) rfl rfl];have q2:=fun b k h=>c79 (c:=41) b k h rfl
 have qa:=k77 (K:=K) (H41_b h x fo ko) (H41_p h x fo ko) hA;have qb:=k78 (K:=K) (H41_b h x fo ko) (H41_p h x fo ko) hB;generalize K x.a=A at qa ⊢;generalize K x.b=B at qb ⊢;generalize K x.c=C at hC ⊢;obtain ⟨k,a,b,c,vk,vn,s,nm,at_⟩:=x;simp only at hk;subst hk;cases e0:eqI A 2<;>cases e1:eqI B C <;>
 simp -implicitDefEqProofs (disch:=omega) [q2,qa,qb,hC,e0,e1,md,hmk,D.beq,D.beq.beqs]
theorem s41_2 {x:PT}{y:T}{ds:List DV}(hy:Slice y (ds.map decT))(hl:ds.length≤2000000){fo:FuncId}{ko:Nat}{h:H}(hk:x.k=2)(hmk:h.marks=[]) :
   call cx prim0 41 [.t (prP x),.t y,.func (.func fo) [] [.ptr ko 0 0 1]] h=some (.t (iv (kind3 (declK ds x.nm))),H41 h x fo ko):=by
 rw [call_run (cx:=cx) rfl Tryz.func41 ok41 nd41 rfl (lbe rfl) rfl rfl];have q1:=fun h=>c80 (c:=41) (nm:=x.nm) hy hl h rfl
 have q2:=fun b k h=>c79 (c:=41) b k h rfl
 obtain ⟨k,a,b,c,vk,vn,s,nm,at_⟩:=x;simp only at hk q1 ⊢;subst hk;generalize declK ds nm=D at q1 ⊢;unfold kind3;by_cases h1:1≤D
 · by_cases h2:D≤3
   · rw [if_pos ⟨h1,h2⟩]
     simp -implicitDefEqProofs (disch:=omega) [q1,q2,md,hmk]
   · rw [if_neg (by omega)]
     simp -implicitDefEqProofs (disch:=omega) [q1,q2,md,hmk]
 · rw [if_neg (by omega)]
   simp -implicitDefEqProofs (disch:=omega) [q1,q2,md,hmk]
theorem s41_0 {x:PT}{y:T}{fo:FuncId}{ko:Nat}{h:H}(hk:x.k<1∨19<x.k)(hmk:h.marks=[]) :
  call cx prim0 41 [.t (prP x),.t y,.func (.func fo) [] [.ptr ko 0 0 1]] h=some (.t (iv 0),H41 h x fo ko):=by
 rw [call_run (cx:=cx) rfl Tryz.func41 ok41 nd41 rfl (lbe rfl) rfl rfl];simp -implicitDefEqProofs (disch:=omega) [md,hmk]
end Go.Proofs.YtaldobgfbkllfaaGreatDoor.P0

namespace Go.Proofs.YtaldobgfbkllfaaGreatDoor
open Vai
theorem uses_k {x:PT}:(3≤x.k→x.k≤19→x.a∈usesS x)∧(6≤x.k→x.k≤19→x.b∈usesS x)∧(x.k=19→x.c∈usesS x):=by
 unfold usesS;refine ⟨fun h1 h2=>?_,fun h1 h2=>?_,fun h=>?_⟩
 · split
   · simp
   · split
     · simp
     · rw [if_pos (by omega)]; simp
 · split
   · simp
   · rw [if_pos (by omega)]; simp
 · rw [if_pos h]; simp
end Go.Proofs.YtaldobgfbkllfaaGreatDoor
namespace Go.Proofs.YtaldobgfbkllfaaGreatDoor.P0
open Vai
variable [Gl]
set_option maxHeartbeats 0
set_option maxRecDepth 100000
theorem s41 {x:PT}{y:T}{ds:List DV}(hy:Slice y (ds.map decT))(hl:ds.length≤2000000){fo:FuncId}{ko:Nat}{h:H}{K:Int→Int}(hmk:h.marks=[])(hs:x.s.size≤1000000000)
   (hK:∀ j∈usesS x,1≤K j∧K j≤3)
   (hof:∀ j∈usesS x,∀ c:FuncId,c=77∨c=78∨c=41→callD (cx.at c) (call cx prim0) fo [.t (iv j),.ptr ko 0 0 1] (H41 h x fo ko)=some (.t (iv (K j)),H41 h x fo ko)) :
   call cx prim0 41 [.t (prP x),.t y,.func (.func fo) [] [.ptr ko 0 0 1]] h=some (.t (iv (kdS x ds K)),H41 h x fo ko):=by
 obtain ⟨ua,ub,uc⟩:=uses_k (x:=x);unfold kdS;by_cases e1:x.k=1
 · rw [if_pos e1]; exact s41_1 e1 hmk hs
 rw [if_neg e1];by_cases e2:x.k=2
 · rw [if_pos e2]; exact s41_2 hy hl e2 hmk
 rw [if_neg e2];by_cases e3:x.k=3
 · rw [if_pos e3]
   have:=s41_3 (y:=y) (K:=K) e3 hmk (hof _ (ua (by omega) (by omega)) 77 (.inl rfl))
   simpa only [eqI,decide_eq_true_eq] using this
 rw [if_neg e3];by_cases e4:x.k=4
 · rw [if_pos e4]
   have:=s41_4 (y:=y) (K:=K) e4 hmk (hof _ (ua (by omega) (by omega)) 77 (.inl rfl))
   simpa only [eqI,decide_eq_true_eq] using this
 rw [if_neg e4];by_cases e5:x.k=5
 · rw [if_pos e5]
   have:=s41_5 (y:=y) (K:=K) e5 hmk (hof _ (ua (by omega) (by omega)) 77 (.inl rfl))
   simpa only [eqI,decide_eq_true_eq] using this
 rw [if_neg e5];by_cases e6:x.k=6∨x.k=7∨x.k=8∨x.k=10
 · rw [if_pos e6]
   have:=s41_6 (y:=y) (K:=K) e6 hmk (hof _ (ua (by omega) (by omega)) 77 (.inl rfl)) (hof _ (ub (by omega) (by omega)) 78 (.inr (.inl rfl)))
   rw [this];congr 4;simp [eqI]
 rw [if_neg e6];by_cases e9:x.k=9
 · rw [if_pos e9]
   have h1:=hK _ (ua (by omega) (by omega))
   have:=s41_9 (y:=y) (K:=K) e9 hmk (hof _ (ua (by omega) (by omega)) 77 (.inl rfl)) (hof _ (ub (by omega) (by omega)) 78 (.inr (.inl rfl)))
   rw [this];congr 4;by_cases h2:K x.a=K x.b<;>by_cases h3:K x.a=2<;>simp [eqI,h2,h3]<;>omega
 rw [if_neg e9];by_cases e11:x.k=11∨x.k=12
 · rw [if_pos e11]
   have h1:=hK _ (ua (by omega) (by omega))
   have:=s41_11 (y:=y) (K:=K) e11 hmk (hof _ (ua (by omega) (by omega)) 77 (.inl rfl)) (hof _ (ub (by omega) (by omega)) 78 (.inr (.inl rfl)))
   rw [this];congr 4;by_cases h2:K x.a=K x.b
   · rw [if_pos (eqI_true h2),if_pos ⟨h2,by omega⟩]
   · rw [if_neg (by simp [eqI,h2]),if_neg (fun h=>h2 h.1)]
 rw [if_neg e11];by_cases e13:x.k=13∨x.k=14∨x.k=15∨x.k=16
 · rw [if_pos e13]
   have h1:=hK _ (ua (by omega) (by omega))
   have:=s41_13 (y:=y) (K:=K) e13 hmk (hof _ (ua (by omega) (by omega)) 77 (.inl rfl)) (hof _ (ub (by omega) (by omega)) 78 (.inr (.inl rfl)))
   rw [this];congr 4;by_cases h2:K x.a=K x.b<;>by_cases h3:K x.a=2<;>simp [eqI,h2,h3]<;>omega
 rw [if_neg e13];by_cases e17:x.k=17∨x.k=18
 · rw [if_pos e17]
   have:=s41_17 (y:=y) (K:=K) e17 hmk (hof _ (ua (by omega) (by omega)) 77 (.inl rfl)) (hof _ (ub (by omega) (by omega)) 78 (.inr (.inl rfl)))
   rw [this];congr 4;simp [eqI]
 rw [if_neg e17];by_cases e19:x.k=19
 · rw [if_pos e19]
   have:=s41_19 (y:=y) (K:=K) e19 hmk (hof _ (ua (by omega) (by omega)) 77 (.inl rfl)) (hof _ (ub (by omega) (by omega)) 78 (.inr (.inl rfl))) (hof _ (uc e19) 41 (.inr (.inr rfl)))
   rw [this];congr 4;simp [eqI]
 rw [if_neg e19];exact s41_0 (by omega) hmk
theorem c47 {c:FuncId}(x:PT)(h:H)(hm:md c 47 = .pure):∃ y,Slice y ((usesS x).map iv)∧callD (cx.at c) (call cx prim0) 47 [.t (prP x)] h=some (.t y,h):=by
 have:∃ h' y,call cx prim0 47 [.t (prP x)] .empty=some (.t y,h')∧Slice y ((usesS x).map iv):=by
  rw [call_run (cx:=cx) rfl Tryz.func47 ok47 nd47 rfl (lbe rfl) rfl rfl];unfold usesS;by_cases e1:x.k=19
  · simp -implicitDefEqProofs (disch:=omega) [e1,litSliceD]
    exact ⟨_,_,⟨rfl,rfl⟩,.mk⟩
  by_cases e2:6≤x.k∧x.k≤18
  · simp -implicitDefEqProofs (disch:=omega) [e1,e2,litSliceD]
    exact ⟨_,_,⟨rfl,rfl⟩,.mk⟩
  by_cases e3:3≤x.k∧x.k≤5
  · have h6:¬ 6≤x.k:=by omega
    simp -implicitDefEqProofs (disch:=omega) [e1,h6,e3,litSliceD];exact ⟨_,_,⟨rfl,rfl⟩,.mk⟩
  by_cases e4:x.k<3
  · have h6:¬ 6≤x.k:=by omega
    simp -implicitDefEqProofs (disch:=omega) [e1,h6,e3,e4,e2];exact ⟨_,_,⟨rfl,rfl⟩,.nil⟩
  · have h6:6≤x.k:=by omega
    have h7:¬ x.k≤18:=by omega
    have h8:3≤x.k:=by omega
    have h9:¬ x.k≤5:=by omega
    simp -implicitDefEqProofs (disch:=omega) [e1,h6,e3,e4,e2,h7,h8,h9];exact ⟨_,_,⟨rfl,rfl⟩,.nil⟩
 obtain ⟨h',y,q,hy⟩:=this;exact ⟨y,hy,pureT cb47 hm q rfl rfl⟩
end Go.Proofs.YtaldobgfbkllfaaGreatDoor.P0

namespace Go.Proofs.YtaldobgfbkllfaaGreatDoor
open Vai
def getK (l:List Int)(j:Int):Int:=(l[j.toNat]?).getD 0
def kindsL (ps:List PT)(ds:List DV):Nat→List Int
 | 0=>[]
 | i+1=>kindsL ps ds i ++ [match ps[i]? with|some x=>kdS x ds (getK (kindsL ps ds i))|none=>0]
theorem kindsL_len (ps:List PT)(ds:List DV):∀ i,(kindsL ps ds i).length=i
 | 0=>rfl
 | i+1=>by simp [kindsL,kindsL_len ps ds i]
def sidesB (x:PT)(i:Nat):Bool:=(usesS x).all fun j=>decide (0≤j∧j<i)
def goodK (ps:List PT)(ds:List DV):Nat→Bool
 | 0=>true
 | i+1=>goodK ps ds i&&match ps[i]? with|some x=>sidesB x i && !decide (kdS x ds (getK (kindsL ps ds i))=0)|none=>false
theorem goodK_mono {ps : List PT} {ds : List DV} : ∀ {n i : Nat}, i ≤ n → goodK ps ds i = false → goodK ps ds n = false
  | 0, i, h, hf => by obtain rfl : i = 0 := by omega
                      exact hf
  | n + 1, i, h, hf => by
    by_cases e : i = n + 1
    · subst e; exact hf
    · simp only [goodK, goodK_mono (n := n) (i := i) (by omega) hf, Bool.false_and]
def bump (u:List Int)(j:Int):List Int:=u.set j.toNat (getK u j+1)
def usedL (ps:List PT):Nat→List Int
 | 0=>List.replicate ps.length 0
 | i+1=>match ps[i]? with|some x=>(usesS x).foldl bump (usedL ps i)|none=>usedL ps i
theorem bump_len (u:List Int)(j:Int):(bump u j).length=u.length:=by simp [bump]
theorem bumps_len:∀ (js:List Int) (u:List Int),(js.foldl bump u).length=u.length
 | [],u=>rfl
 | j::js,u=>by rw [List.foldl_cons,bumps_len js,bump_len]
theorem usedL_len (ps:List PT):∀ i,(usedL ps i).length=ps.length
 | 0=>by simp [usedL]
 | i+1=>by
  unfold usedL;split
  · rw [bumps_len,usedL_len ps i]
  · exact usedL_len ps i
def onesB (l:List Int):Bool:=l.all fun n=>decide (n=1)
def kindS (ps:List PT)(ds:List DV):Int :=
 if ps.length=0∨256<ps.length then 0
 else if goodK ps ds ps.length=false then 0
 else if onesB ((usedL ps ps.length).take (ps.length-1))=false then 0
 else getK (kindsL ps ds ps.length) ((ps.length:Int)-1)
def padK (l:List Int)(n:Nat):List Int:=l++List.replicate (n-l.length) 0
theorem padK_len {l:List Int}{n:Nat}(h:l.length≤n):(padK l n).length=n:=by simp [padK]; omega
theorem padK_get {l:List Int}{n:Nat}{j:Int}(h0:0≤j)(h:j<l.length):getK (padK l n) j=getK l j:=by
 unfold getK padK;rw [List.getElem?_append_left (by omega)]
theorem padK_set {l:List Int}{n:Nat}{v:Int}(h:l.length<n):(padK l n).set l.length v=padK (l ++ [v]) n:=by
 unfold padK;rw [List.set_append_right _ _ (Nat.le_refl _),Nat.sub_self];have:n-l.length=(n-(l ++ [v]).length)+1:=by simp; omega
 rw [this,List.replicate_succ,List.set_cons_zero,List.append_assoc];rfl
theorem getK_some {l:List Int}{j:Int}(h0:0≤j)(h:j<l.length):l[j.toNat]?=some (getK l j):=by
 unfold getK;rw [List.getElem?_eq_getElem (by omega)]
 rfl
end Go.Proofs.YtaldobgfbkllfaaGreatDoor
namespace Go.Proofs.YtaldobgfbkllfaaGreatDoor.P0
open Vai
variable [Gl]
set_option maxHeartbeats 0
set_option maxRecDepth 100000
structure KH (a b c:Nat) (ks us:List Int) (h:H):Prop where
 oa:h.objs a=some (.row 3 1 ((ks.map iv).map .t))
 ob:h.objs b=some (.row 3 1 ((us.map iv).map .t))
 oc:h.objs c=some (.row 60 1 [.row a 0 ks.length ks.length])
 ab:a≠b
 ac:a≠c
 bc:b≠c
 la:a<h.next
 lb:b<h.next
 lc:c<h.next
 hm:h.marks=[]
theorem KH.keeps {a b c:Nat}{ks us:List Int}{h h':H}(k:KH a b c ks us h)(kp:Keeps h h'):KH a b c ks us h' where
 oa:=kp.obj k.oa k.la
 ob:=kp.obj k.ob k.lb
 oc:=kp.obj k.oc k.lc
 ab:=k.ab
 ac:=k.ac
 bc:=k.bc
 la:=Nat.lt_of_lt_of_le k.la kp.1
 lb:=Nat.lt_of_lt_of_le k.lb kp.1
 lc:=Nat.lt_of_lt_of_le k.lc kp.1
 hm:=kp.2.1.trans k.hm
theorem KH.setA {a b c:Nat}{ks us ks':List Int}{h:H}(k:KH a b c ks us h)(hl:ks'.length=ks.length):KH a b c ks' us (h.set a (.row 3 1 ((ks'.map iv).map .t))) where
 oa:=by simp [H.set,upd]
 ob:=by simp only [H.set,upd]; rw [if_neg (Ne.symm k.ab)]; exact k.ob
 oc:=by simp only [H.set,upd]; rw [if_neg (Ne.symm k.ac),hl]; exact k.oc
 ab:=k.ab
 ac:=k.ac
 bc:=k.bc
 la:=k.la
 lb:=k.lb
 lc:=k.lc
 hm:=k.hm
theorem KH.setB {a b c:Nat}{ks us us':List Int}{h:H}(k:KH a b c ks us h):KH a b c ks us' (h.set b (.row 3 1 ((us'.map iv).map .t))) where
 oa:=by simp only [H.set,upd]; rw [if_neg k.ab]; exact k.oa
 ob:=by simp [H.set,upd]
 oc:=by simp only [H.set,upd]; rw [if_neg (Ne.symm k.bc)]; exact k.oc
 ab:=k.ab
 ac:=k.ac
 bc:=k.bc
 la:=k.la
 lb:=k.lb
 lc:=k.lc
 hm:=k.hm
theorem k48 {a b c:Nat}{ks us:List Int}{h:H}(k:KH a b c ks us h){j:Int}(h0:0≤j)(hj:j<ks.length)(q:FuncId)(hq:md q 48 = .keep):callD (cx.at q) (call cx prim0) 48 [.t (iv j),.ptr c 0 0 1] h=some (.t (iv (getK ks j)),h):=by
 have:call cx prim0 48 [.t (iv j),.ptr c 0 0 1] h=some (.t (iv (getK ks j)),h):=by
  rw [call_run (cx:=cx) rfl Tryz.func48 ok48 nd48 rfl (lbe rfl) rfl rfl];have hg:((ks.map iv).map D.t)[j.toNat]?=some (.t (iv (getK ks j))):=by
   rw [List.getElem?_map,List.getElem?_map,getK_some h0 hj]; rfl
  have hj':j.toNat<ks.length:=by omega
  simp -implicitDefEqProofs (disch:=omega) [-List.getElem?_map,-List.map_map,k.oa,k.oc,hg,hj']
 exact keepT cb48 hq this
end Go.Proofs.YtaldobgfbkllfaaGreatDoor.P0

namespace Go.Proofs.YtaldobgfbkllfaaGreatDoor
open Vai
def allIn (js:List Int)(i:Nat):Bool:=js.all fun j=>decide (0≤j∧j<i)
def smallU (u:List Int)(B:Int):Prop:=∀ (t:Nat) (v:Int),u[t]?=some v→0≤v∧v≤B
theorem smallU.bump {u:List Int}{B:Int}(h:smallU u B)(h0:0≤B)(j:Int):smallU (bump u j) (B+1):=fun t v hv=>by
 unfold Proofs.YtaldobgfbkllfaaGreatDoor.bump at hv;rw [List.getElem?_set] at hv;split at hv
 · split at hv
   · cases hv
     rename_i hlt;have:=h j.toNat _ (List.getElem?_eq_getElem hlt);unfold getK;rw [List.getElem?_eq_getElem hlt];simp only [Option.getD_some];omega
   · cases hv
 · have:=h t v hv; omega
theorem smallU.get {u:List Int}{B:Int}(h:smallU u B)(h0:0≤B)(j:Int):0≤getK u j∧getK u j≤B:=by
 unfold getK
 cases hv:u[j.toNat]? with
 | none=>simp; omega
 | some v=>simpa using h _ v hv
theorem smallU.bumps {js:List Int}:∀ {u:List Int} {B:Int},smallU u B→0≤B→smallU (js.foldl Proofs.YtaldobgfbkllfaaGreatDoor.bump u) (B+js.length):=by
 induction js with
 | nil=>intro u B h h0; simpa using h
 | cons j js ih =>
  intro u B h h0;have:=ih (h.bump h0 j) (by omega)
  rw [List.foldl_cons,List.length_cons];have e:B+((js.length+1:Nat):Int)=B+1+js.length:=by omega
  rw [e];exact this
theorem uses_len (x:PT):(usesS x).length≤3:=by
 unfold usesS;split
 · simp
 · split
   · simp
   · split<;>simp
theorem usedL_small (ps:List PT):∀ i,smallU (usedL ps i) (3*i)
 | 0=>fun t v hv=>by
  simp only [usedL,List.getElem?_replicate] at hv;split at hv
  · cases hv; simp
  · cases hv
 | i+1=>by
  unfold usedL;split
  · rename_i x hx
    have h1:=(usedL_small ps i).bumps (js:=usesS x) (by omega)
    intro t v hv;have:=h1 t v hv;have:=uses_len x;omega
  · intro t v hv
    have:=usedL_small ps i t v hv;omega
end Go.Proofs.YtaldobgfbkllfaaGreatDoor
namespace Go.Proofs.YtaldobgfbkllfaaGreatDoor.P0
open Vai
variable [Gl]
set_option maxHeartbeats 0
set_option maxRecDepth 100000
theorem nd26:(loopIds (bodyOf Tryz.f26)).Nodup:=by decide +kernel
theorem store_iv {h:H}{id:Nat}{l:List Int}(ho:h.objs id=some (.row 3 1 ((l.map iv).map .t))){i:Nat}(hi:i<l.length)(v:Int) :
  storeD Tryz.prog h 3 (.ptr id i 0 l.length) (.t (iv v))=some (h.set id (.row 3 1 (((l.set i v).map iv).map .t))):=by
 have:=store_one (P:=Tryz.prog) (h:=h) (t:=3) (bt:=3) (id:=id) (i:=i) (top:=l.length) (xs:=l.map iv) (y:=iv v) ho (by simp) hi (by
  intro x hx;obtain ⟨n,_,rfl⟩:=List.mem_map.1 hx;rfl) rfl sz3 (by rw [tk3]; rfl)
 rw [this];simp only [List.map_set]
theorem l26_2 {a b c p:Nat}{ks us:List Int}{x:PT}{i n:Nat}{y:T}{js:List Int}(hy:Slice y (js.map iv))(hl:js.length≤3)(hn:us.length=n)(hin:i<n)(hb0:smallU us 1000000)(hpb:p≠b){st:St}{r:CR}(hLp:loopω (LB cx prim0 26 Tryz.f26 2) st=r)
   (en:st.n=87) (e6:st.env 6 = .row b 0 n n) (e7:st.env 7 = .t (.int .i64 i)) (e35:st.env 35 = .t y) (e36:st.env 36 = .t (.int .i64 js.length)) (e37:st.env 37 = .t (.int .i64 0)) (hK:KH a b c ks us st.h) (hp:st.h.objs p=some (.row 57 9 [.t (prP x)]))
   {d0 d1 d5 d8 d27 d28 d29:D} (e0:st.env 0=d0) (e1:st.env 1=d1) (e5:st.env 5=d5) (e8:st.env 8=d8) (e27:st.env 27=d27) (e28:st.env 28=d28) (e29:st.env 29=d29) :
   ∃ x' st',r=some (x',st')∧st'.n=87∧((x' = .exit 2∧allIn js i=true∧st'.env 6 = .row b 0 n n∧st'.env 7 = .t (.int .i64 i)∧st'.env 0=d0∧st'.env 1=d1∧st'.env 5=d5∧st'.env 8=d8∧st'.env 27=d27∧st'.env 28=d28∧st'.env 29=d29∧KH a b c ks (js.foldl bump us) st'.h∧st'.h.objs p=some (.row 57 9 [.t (prP x)])∧st'.h.next=st.h.next)
     ∨ (x' = .ret∧allIn js i=false∧st'.env 4 = .t (iv 0))):=by
 have hly:=fun hh=>hy.len (P:=Tryz.prog) (t:=60) tk60 hh
 rw [List.length_map] at hly;refine loop_uses hLp js.length
   (fun m s=>s.n=87∧s.env 6 = .row b 0 n n∧s.env 7 = .t (.int .i64 i)∧s.env 35 = .t y∧s.env 36 = .t (.int .i64 js.length)∧s.env 37 = .t (.int .i64 m)∧s.env 0=d0∧s.env 1=d1∧s.env 5=d5∧s.env 8=d8∧s.env 27=d27∧s.env 28=d28∧s.env 29=d29 ∧
     allIn (js.take m) i=true∧KH a b c ks ((js.take m).foldl bump us) s.h∧s.h.objs p=some (.row 57 9 [.t (prP x)])∧s.h.next=st.h.next)
   (fun x' st'=>st'.n=87∧((x' = .exit 2∧allIn js i=true∧st'.env 6 = .row b 0 n n∧st'.env 7 = .t (.int .i64 i)∧st'.env 0=d0∧st'.env 1=d1∧st'.env 5=d5∧st'.env 8=d8∧st'.env 27=d27∧st'.env 28=d28∧st'.env 29=d29∧KH a b c ks (js.foldl bump us) st'.h∧st'.h.objs p=some (.row 57 9 [.t (prP x)])∧st'.h.next=st.h.next)
     ∨ (x' = .ret∧allIn js i=false∧st'.env 4 = .t (iv 0))))
   ⟨en,e6,e7,e35,e36,e37,e0,e1,e5,e8,e27,e28,e29,rfl,hK,hp,rfl⟩ ?_
 generalize st.h.next=nx
 clear hLp en e6 e7 e35 e36 e37 e0 e1 e5 e8 e27 e28 e29 hK hp st;rintro m ⟨nn,env,h2⟩ hm ⟨rfl,e6,e7,e35,e36,e37,e0,e1,e5,e8,e27,e28,e29,hall,hK,hp,hnx⟩;simp only at e6 e7 e35 e36 e37 e0 e1 e5 e8 e27 e28 e29 hK hp hnx;rw [LB_run nd26 rfl];by_cases hm':m<js.length
 · obtain ⟨j,hj⟩:∃ j,js[m]?=some j:=⟨js[m],by simp [hm']⟩
   have hye:y = .slice (js.map iv):=hy.eq_of_ne (by intro e; have:=congrArg List.length e; simp at this; subst this; simp at hm')
   subst hye;have hg:(js.map iv)[m]?=some (iv j):=by rw [List.getElem?_map,hj]; rfl
   have c1:(m:Int)<js.length:=by omega
   have htk:js.take (m+1)=js.take m ++ [j]:=by rw [List.take_add_one,hj]; rfl
   have hbad:¬ (0≤j∧j<i)→allIn js i=false:=fun hn=>by
     unfold allIn;rw [List.all_eq_false];exact ⟨j,List.mem_of_getElem? hj,by simp only [decide_eq_true_eq]; exact hn⟩
   by_cases h0:j<0
   · simp -implicitDefEqProofs (disch:=omega) [-List.getElem?_map,-storeD,e6,e7,e35,e36,e37,hg,Wp_some]
     exact hbad (by omega)
   · by_cases h1:(i:Int)≤j
     · simp -implicitDefEqProofs (disch:=omega) [-List.getElem?_map,-storeD,e6,e7,e35,e36,e37,hg,h0,Wp_some]
       exact hbad (by omega)
     · have hul:((js.take m).foldl bump us).length=n:=by rw [bumps_len,hn]
       have hju:j.toNat<((js.take m).foldl bump us).length:=by omega
       have hget:((((js.take m).foldl bump us).map iv).map D.t)[j.toNat]?=some (.t (iv (getK ((js.take m).foldl bump us) j))):=by
         rw [List.getElem?_map,List.getElem?_map,getK_some (by omega) (by omega)]; rfl
       have hst:=store_iv hK.ob hju (getK ((js.take m).foldl bump us) j+1);have hK2:=hK.setB (us':=bump ((js.take m).foldl bump us) j);have hsm:=(hb0.bumps (js:=js.take m) (by omega)).get (by omega) j
       have hlen3:((js.take m).length:Int)≤3:=by simp; omega
       have hbr:=hK.ob;have hbu:(bump ((js.take m).foldl bump us) j)=((js.take m).foldl bump us).set j.toNat (getK ((js.take m).foldl bump us) j+1):=rfl;have hfo:(js.take (m+1)).foldl bump us=bump ((js.take m).foldl bump us) j:=by rw [htk,List.foldl_append]; rfl
       rw [hul] at hst hju;rw [←hbu] at hst;generalize hU:(js.take m).foldl bump us=U at *;have hlu:((U.map iv).map D.t).length=n:=by simp [hul]
       have hjn:j.toNat<n:=hju;have hK2':=hK2;clear hK2;generalize hE:(U.map iv).map D.t=E at hbr hget hlu;simp -implicitDefEqProofs (disch:=omega) [-List.getElem?_map,-List.map_map,-storeD,-getElem?_pos,e6,e7,e35,e36,e37,e0,e1,e5,e8,e27,e28,e29,hg,h0,h1,hbr,hget,hst,hlu,hjn,Wp_some];refine ⟨hm',?_,?_,?_,hnx⟩
       · unfold allIn at hall ⊢
         rw [htk,List.all_append,hall];simp; omega
       · rw [hfo]; exact hK2'
       · simp only [hpb,if_false]; exact hp
 · obtain rfl:m=js.length:=by omega
   rw [List.take_length] at hall hK;simp -implicitDefEqProofs (disch:=omega) [e6,e7,e35,e36,e37,e0,e1,e5,e8,e27,e28,e29,Wp_some];exact ⟨hall,hK,hp,hnx⟩
end Go.Proofs.YtaldobgfbkllfaaGreatDoor.P0
