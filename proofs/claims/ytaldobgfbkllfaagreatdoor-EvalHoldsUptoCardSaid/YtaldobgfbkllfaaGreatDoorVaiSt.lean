import Derived.Test.YtaldobgfbkllfaaGreatDoorVaiSp
import Derived.Test.YtaldobgfbkllfaaGreatDoorVaiSs
import Derived.Test.YtaldobgfbkllfaaGreatDoorVaiSq
set_option linter.unusedSimpArgs false
set_option linter.unusedVariables false
set_option linter.unusedSectionVars false
namespace Go.Proofs.YtaldobgfbkllfaaGreatDoor
open Vai
variable [Gl]
set_option maxHeartbeats 0
set_option maxRecDepth 100000
def usesN (k:Int):Int:=if 3≤k∧k≤5 then 1 else if 6≤k∧k≤18 then 2 else if k=19 then 3 else 0
theorem c67 {c:FuncId}(k:Int)(h:H)(hm:md c 67 = .pure):callD (cx.at c) (call cx prim) 67 [.t (iv k)] h=some (.t (iv (usesN k)),h):=by
 have:∃ h',call cx prim 67 [.t (iv k)] .empty=some (.t (iv (usesN k)),h'):=by
  rw [call_run (cx:=cx) rfl Tryz.func67 ok67 nd67 rfl (lbe rfl) rfl rfl];unfold usesN;by_cases h1:3≤k
  · by_cases h2:k≤5
    · have:¬ 6≤k:=by omega
      simp -implicitDefEqProofs (disch:=omega) [h1,h2]
    · by_cases h3:k≤18
      · have:6≤k:=by omega
        simp -implicitDefEqProofs (disch:=omega) [h1,h2,h3,this]
      · by_cases h4:k=19
        · simp -implicitDefEqProofs (disch:=omega) [h4]
        · have:6≤k:=by omega
          simp -implicitDefEqProofs (disch:=omega) [h1,h2,h3,h4,this]
  · have h5:¬ 6≤k:=by omega
    have h6:¬ k=19:=by omega
    simp -implicitDefEqProofs (disch:=omega) [h1,h5,h6]
 obtain ⟨h',q⟩:=this;exact pureT cb67 hm q rfl rfl
theorem s97 {y:T}{ds:List DV}{nm:ByteArray}(hy:Slice y (ds.map decT))(hl:ds.length≤2000000):∃ h',call cx prim 97 [.t y,.t (.str nm)] .empty=some (.t (iv (kind3 (declK ds nm))),h'):=by
 rw [call_run (cx:=cx) rfl Tryz.func97 ok97 nd97 rfl (lbe rfl) rfl rfl];have hlx:=fun hh=>hy.len (P:=Tryz.prog) (t:=32) tk32 hh
 rw [List.length_map] at hlx;simp -implicitDefEqProofs (disch:=omega) [];generalize hLp:loopω _ _=L;obtain ⟨x',⟨nn,env,h2⟩,rfl,rfl,hq⟩:=loop_uses hLp ds.length
   (fun k st=>st.n=38∧st.env 0 = .t y∧st.env 1 = .t (.str nm)∧st.env 5 = .t (.int .i64 k)∧(ds.drop k).find? (fun v=>eqS v.1 nm)=declF ds nm)
   (fun x' st=>st.n=38∧((x' = .exit 0∧declF ds nm=none)∨(x' = .ret∧st.env 4 = .t (iv (kind3 (declK ds nm))))))
   (by refine ⟨rfl,?_⟩; simp [declF]) (by
   rintro k ⟨nn,env,h2⟩ hk ⟨rfl,e0,e1,e5,hb⟩;simp only at e0 e1 e5;rw [LB_run nd97 rfl];by_cases hk':k<ds.length
   · obtain ⟨v,hv⟩:∃ v,ds[k]?=some v:=⟨ds[k],by simp [hk']⟩
     have hxe:y = .slice (ds.map decT):=hy.eq_of_ne (by intro e; have:=congrArg List.length e; simp at this; subst this; simp at hk')
     subst hxe;have hg:(ds.map decT)[k]?=some (decT v):=by rw [List.getElem?_map,hv]; rfl
     have c1:(k:Int)<ds.length:=by omega
     rw [findD_drop hv] at hb
     cases he:eqS v.1 nm with
     | true =>
      rw [he,if_pos rfl] at hb;have hd:declK ds nm=v.2:=by unfold declK; rw [←hb]
      rw [hd];unfold kind3;by_cases h1:1≤v.2
      · by_cases h3:v.2≤3
        · rw [if_pos ⟨h1,h3⟩]
          simp -implicitDefEqProofs (disch:=omega) [-List.getElem?_map,e0,e1,e5,hg,hlx,he,Wp_some]
        · rw [if_neg (by omega)]
          simp -implicitDefEqProofs (disch:=omega) [-List.getElem?_map,e0,e1,e5,hg,hlx,he,Wp_some]
      · rw [if_neg (by omega)]
        simp -implicitDefEqProofs (disch:=omega) [-List.getElem?_map,e0,e1,e5,hg,hlx,he,Wp_some]
     | false =>
      rw [he,if_neg (by simp)] at hb
      simp -implicitDefEqProofs (disch:=omega) [-List.getElem?_map,e0,e1,e5,hg,hlx,he,Wp_some];exact ⟨hk',hb⟩
   · obtain rfl:k=ds.length:=by omega
     rw [List.drop_length] at hb;simp -implicitDefEqProofs (disch:=omega) [e0,e1,e5,hlx,Wp_some];exact hb.symm)
 rcases hq with ⟨rfl,hb⟩|⟨rfl,e4⟩
 · have hd:kind3 (declK ds nm)=0:=by unfold declK; rw [hb]; rfl
   rw [hd];simp -implicitDefEqProofs (disch:=omega) []
 · simp only at e4
   simp -implicitDefEqProofs (disch:=omega) [e4]
theorem c97 {c:FuncId}{y:T}{ds:List DV}{nm:ByteArray}(hy:Slice y (ds.map decT))(hl:ds.length≤2000000)(h:H)(hm:md c 97 = .pure):callD (cx.at c) (call cx prim) 97 [.t y,.t (.str nm)] h=some (.t (iv (kind3 (declK ds nm))),h):=by
 obtain ⟨h',q⟩:=s97 (nm:=nm) hy hl;exact pureT cb97 hm q rfl rfl
theorem st57 (h:H)(x:PT):storeD Tryz.prog (h.push (.row 57 9 [.t (.agg [.int .i64 0,.int .i64 0,.int .i64 0,.int .i64 0,.int .i64 0,.int .i64 0,.str ⟨#[]⟩,.str ⟨#[]⟩,.int .i64 0])])) 57 (.ptr h.next 0 0 1) (.t (prP x))=some (h.push (.row 57 9 [.t (prP x)])):=by
 simp -implicitDefEqProofs (disch:=omega) [push_set]
theorem padK_set0 {l:List Int}{n:Nat}(h:l.length<n):(padK l n).set l.length 0=padK l n:=by
 rw [padK_set h];unfold padK;have:n-l.length=(n-(l ++ [0]).length)+1:=by simp; omega
 rw [this,List.replicate_succ];simp
structure KR (ks:List Int) (h:H):Prop where
 o:h.objs 0=some (.row 3 1 ((ks.map iv).map .t))
 l:0<h.next
 m:h.marks=[]
theorem KR.push {ks:List Int}{h:H}(k:KR ks h)(o:AObj):KR ks (h.push o) where
 o:=by simp only [H.push,upd]; rw [if_neg (by have:=k.l; omega)]; exact k.o
 l:=by simp [H.push]
 m:=k.m
theorem KR.set {ks ks':List Int}{h:H}(k:KR ks h):KR ks' (h.set 0 (.row 3 1 ((ks'.map iv).map .t))) where
 o:=by simp [H.set,upd]
 l:=k.l
 m:=k.m
structure P53 (ps:List PT) (y:T) (ks:List Int) (k:Nat) (s:St):Prop where
 n:s.n=183
 e0:s.env 0 = .t (.slice (ps.map prP))
 e1:s.env 1 = .t y
 e5:s.env 5 = .row 0 0 ps.length ps.length
 e6:s.env 6 = .t (.int .i64 k)
 h:KR ks s.h
section
variable {ps:List PT}{y:T}{ks:List Int}{k:Nat}{x:PT}{ds:List DV}{env:Nat→D}{h:H}(hk':k<ps.length)(hln:ps.length≤256)(hx:ps[k]?=some x)(hks:ks.length=ps.length)
 (e0:env 0 = .t (.slice (ps.map prP))) (e1:env 1 = .t y) (e5:env 5 = .row 0 0 ps.length ps.length) (e6:env 6 = .t (.int .i64 k)) (hK:KR ks h)
include hk' hln hx hks e0 e1 e5 e6 hK
abbrev F53 (ps:List PT)(x:PT)(k:Nat)(ks:List Int)(E:List D)(h:H):Prop:=(ps.map prP)[k]?=some (prP x)∧(∀ k h,callD (cx.at 53) (call cx prim) 67 [.t (iv k)] h=some (.t (iv (usesN k)),h)) ∧
 storeD Tryz.prog (h.push (.row 57 9 [.t (.agg [.int .i64 0,.int .i64 0,.int .i64 0,.int .i64 0,.int .i64 0,.int .i64 0,.str ⟨#[]⟩,.str ⟨#[]⟩,.int .i64 0])])) 57 (.ptr h.next 0 0 1) (.t (prP x))=some (h.push (.row 57 9 [.t (prP x)])) ∧
 (∀ v:Int,storeD Tryz.prog (h.push (.row 57 9 [.t (prP x)])) 3 (.ptr 0 k 0 ps.length) (.t (iv v))=some ((h.push (.row 57 9 [.t (prP x)])).set 0 (.row 3 1 (((ks.set k v).map iv).map .t)))) ∧
 h.objs 0=some (.row 3 1 E)∧E.length=ps.length∧((0=h.next)=False)
theorem pre53:∃ E,F53 ps x k ks E h∧(∀ j:Int,0≤j→j<k→E[j.toNat]?=some (D.t (iv (getK ks j)))):=by
 have hK1:=hK.push (.row 57 9 [.t (prP x)]);refine ⟨(ks.map iv).map D.t,⟨by rw [List.getElem?_map,hx]; rfl,fun k h=>c67 k h rfl,st57 h x,fun v=>?_,hK.o,by simp [hks],ne0 hK.l⟩,fun j h0 h1=>?_⟩
 · have:=P0.store_iv hK1.o (i:=k) (by omega) v
   rwa [hks] at this
 · rw [List.getElem?_map,List.getElem?_map,getK_some h0 (by omega)]; rfl
theorem r53_3 (hk:x.k=3)(gA:0≤x.a∧x.a<k)(h0:ks.set k 0=ks) :
  Wp (LB cx prim 53 Tryz.f53 0 ⟨183,env,h⟩) fun x' st'=>x' = .norm∧P53 ps y (ks.set k (if eqI (getK ks x.a) 1 then 1 else 0)) (k+1) st':=by
 rw [LB_run nd53 rfl];have c1:(k:Int)<ps.length:=by omega
 have hK1:=hK.push (.row 57 9 [.t (prP x)]);have hK2:∀ v:Int,KR (ks.set k v) ((h.push (.row 57 9 [.t (prP x)])).set 0 (.row 3 1 (((ks.set k v).map iv).map .t))):=fun v=>hK1.set
 obtain ⟨E,fq,gE⟩:=pre53 hk' hln hx hks e0 e1 e5 e6 hK;have gEA:=gE x.a gA.1 gA.2;have gLA:x.a.toNat<ps.length:=by omega
 clear gE;generalize getK ks x.a=A at gEA ⊢;obtain ⟨xk,xa,xb,xc,xvk,xvn,xs,xnm,xat⟩:=x;simp only at hk gA gEA gLA ⊢;subst hk
 cases b0:eqI A 1 with
 | false =>
  simp -implicitDefEqProofs (disch:=omega) [-List.getElem?_map,-List.map_map,-List.map_set,-storeD,-getElem?_pos,e0,e1,e5,e6,fq,usesN,hk',gA,gEA,gLA,b0,Wp_some];rw [h0]; refine ⟨rfl,?_,?_,?_,?_,hK1⟩<;>simp [e0,e1,e5]
 | true =>
  simp -implicitDefEqProofs (disch:=omega) [-List.getElem?_map,-List.map_map,-List.map_set,-storeD,-getElem?_pos,e0,e1,e5,e6,fq,usesN,hk',gA,gEA,gLA,b0,Wp_some];refine ⟨rfl,?_,?_,?_,?_,hK2 _⟩<;>simp [e0,e1,e5]
theorem r53_4 (hk:x.k=4)(gA:0≤x.a∧x.a<k)(h0:ks.set k 0=ks) :
  Wp (LB cx prim 53 Tryz.f53 0 ⟨183,env,h⟩) fun x' st'=>x' = .norm∧P53 ps y (ks.set k (if eqI (getK ks x.a) 2 then 2 else 0)) (k+1) st':=by
 rw [LB_run nd53 rfl];have c1:(k:Int)<ps.length:=by omega
 have hK1:=hK.push (.row 57 9 [.t (prP x)]);have hK2:∀ v:Int,KR (ks.set k v) ((h.push (.row 57 9 [.t (prP x)])).set 0 (.row 3 1 (((ks.set k v).map iv).map .t))):=fun v=>hK1.set
 obtain ⟨E,fq,gE⟩:=pre53 hk' hln hx hks e0 e1 e5 e6 hK;have gEA:=gE x.a gA.1 gA.2;have gLA:x.a.toNat<ps.length:=by omega
 clear gE;generalize getK ks x.a=A at gEA ⊢;obtain ⟨xk,xa,xb,xc,xvk,xvn,xs,xnm,xat⟩:=x;simp only at hk gA gEA gLA ⊢;subst hk
 cases b0:eqI A 2 with
 | false =>
  simp -implicitDefEqProofs (disch:=omega) [-List.getElem?_map,-List.map_map,-List.map_set,-storeD,-getElem?_pos,e0,e1,e5,e6,fq,usesN,hk',gA,gEA,gLA,b0,Wp_some];rw [h0]; refine ⟨rfl,?_,?_,?_,?_,hK1⟩<;>simp [e0,e1,e5]
 | true =>
  simp -implicitDefEqProofs (disch:=omega) [-List.getElem?_map,-List.map_map,-List.map_set,-storeD,-getElem?_pos,e0,e1,e5,e6,fq,usesN,hk',gA,gEA,gLA,b0,Wp_some];refine ⟨rfl,?_,?_,?_,?_,hK2 _⟩<;>simp [e0,e1,e5]
theorem r53_5 (hk:x.k=5)(gA:0≤x.a∧x.a<k)(h0:ks.set k 0=ks) :
  Wp (LB cx prim 53 Tryz.f53 0 ⟨183,env,h⟩) fun x' st'=>x' = .norm∧P53 ps y (ks.set k (if eqI (getK ks x.a) 3 then 1 else 0)) (k+1) st':=by
 rw [LB_run nd53 rfl];have c1:(k:Int)<ps.length:=by omega
 have hK1:=hK.push (.row 57 9 [.t (prP x)]);have hK2:∀ v:Int,KR (ks.set k v) ((h.push (.row 57 9 [.t (prP x)])).set 0 (.row 3 1 (((ks.set k v).map iv).map .t))):=fun v=>hK1.set
 obtain ⟨E,fq,gE⟩:=pre53 hk' hln hx hks e0 e1 e5 e6 hK;have gEA:=gE x.a gA.1 gA.2;have gLA:x.a.toNat<ps.length:=by omega
 clear gE;generalize getK ks x.a=A at gEA ⊢;obtain ⟨xk,xa,xb,xc,xvk,xvn,xs,xnm,xat⟩:=x;simp only at hk gA gEA gLA ⊢;subst hk
 cases b0:eqI A 3 with
 | false =>
  simp -implicitDefEqProofs (disch:=omega) [-List.getElem?_map,-List.map_map,-List.map_set,-storeD,-getElem?_pos,e0,e1,e5,e6,fq,usesN,hk',gA,gEA,gLA,b0,Wp_some];rw [h0]; refine ⟨rfl,?_,?_,?_,?_,hK1⟩<;>simp [e0,e1,e5]
 | true =>
  simp -implicitDefEqProofs (disch:=omega) [-List.getElem?_map,-List.map_map,-List.map_set,-storeD,-getElem?_pos,e0,e1,e5,e6,fq,usesN,hk',gA,gEA,gLA,b0,Wp_some];refine ⟨rfl,?_,?_,?_,?_,hK2 _⟩<;>simp [e0,e1,e5]
theorem r53_6 (hk:x.k=6∨x.k=7∨x.k=8∨x.k=10)(gA:0≤x.a∧x.a<k)(gB:0≤x.b∧x.b<k)(h0:ks.set k 0=ks) :
  Wp (LB cx prim 53 Tryz.f53 0 ⟨183,env,h⟩) fun x' st'=>x' = .norm∧P53 ps y (ks.set k (if eqI (getK ks x.a) 1&&eqI (getK ks x.b) 1 then 1 else 0)) (k+1) st':=by
 rw [LB_run nd53 rfl];have c1:(k:Int)<ps.length:=by omega
 have hK1:=hK.push (.row 57 9 [.t (prP x)]);have hK2:∀ v:Int,KR (ks.set k v) ((h.push (.row 57 9 [.t (prP x)])).set 0 (.row 3 1 (((ks.set k v).map iv).map .t))):=fun v=>hK1.set
 obtain ⟨E,fq,gE⟩:=pre53 hk' hln hx hks e0 e1 e5 e6 hK;have gEA:=gE x.a gA.1 gA.2;have gLA:x.a.toNat<ps.length:=by omega
 have gEB:=gE x.b gB.1 gB.2;have gLB:x.b.toNat<ps.length:=by omega
 clear gE;generalize getK ks x.a=A at gEA ⊢;generalize getK ks x.b=B at gEB ⊢;obtain ⟨xk,xa,xb,xc,xvk,xvn,xs,xnm,xat⟩:=x;simp only at hk gA gEA gLA gB gEB gLB ⊢;rcases hk with rfl|rfl|rfl|rfl
 all_goals
  cases b0:eqI A 1 with
  | false =>
   cases b1:eqI B 1 with
   | false =>
    simp -implicitDefEqProofs (disch:=omega) [-List.getElem?_map,-List.map_map,-List.map_set,-storeD,-getElem?_pos,e0,e1,e5,e6,fq,usesN,hk',gA,gEA,gLA,gB,gEB,gLB,b0,b1,Wp_some];rw [h0]; refine ⟨rfl,?_,?_,?_,?_,hK1⟩<;>simp [e0,e1,e5]
   | true =>
    simp -implicitDefEqProofs (disch:=omega) [-List.getElem?_map,-List.map_map,-List.map_set,-storeD,-getElem?_pos,e0,e1,e5,e6,fq,usesN,hk',gA,gEA,gLA,gB,gEB,gLB,b0,b1,Wp_some];rw [h0]; refine ⟨rfl,?_,?_,?_,?_,hK1⟩<;>simp [e0,e1,e5]
  | true =>
   cases b1:eqI B 1 with
   | false =>
    simp -implicitDefEqProofs (disch:=omega) [-List.getElem?_map,-List.map_map,-List.map_set,-storeD,-getElem?_pos,e0,e1,e5,e6,fq,usesN,hk',gA,gEA,gLA,gB,gEB,gLB,b0,b1,Wp_some];rw [h0]; refine ⟨rfl,?_,?_,?_,?_,hK1⟩<;>simp [e0,e1,e5]
   | true =>
    simp -implicitDefEqProofs (disch:=omega) [-List.getElem?_map,-List.map_map,-List.map_set,-storeD,-getElem?_pos,e0,e1,e5,e6,fq,usesN,hk',gA,gEA,gLA,gB,gEB,gLB,b0,b1,Wp_some];refine ⟨rfl,?_,?_,?_,?_,hK2 _⟩<;>simp [e0,e1,e5]
theorem r53_9 (hk:x.k=9)(gA:0≤x.a∧x.a<k)(gB:0≤x.b∧x.b<k)(h0:ks.set k 0=ks) :
  Wp (LB cx prim 53 Tryz.f53 0 ⟨183,env,h⟩) fun x' st'=>x' = .norm∧P53 ps y (ks.set k (if eqI (getK ks x.a) (getK ks x.b)&&(eqI (getK ks x.a) 1||eqI (getK ks x.a) 3) then getK ks x.a else 0)) (k+1) st':=by
 rw [LB_run nd53 rfl];have c1:(k:Int)<ps.length:=by omega
 have hK1:=hK.push (.row 57 9 [.t (prP x)]);have hK2:∀ v:Int,KR (ks.set k v) ((h.push (.row 57 9 [.t (prP x)])).set 0 (.row 3 1 (((ks.set k v).map iv).map .t))):=fun v=>hK1.set
 obtain ⟨E,fq,gE⟩:=pre53 hk' hln hx hks e0 e1 e5 e6 hK;have gEA:=gE x.a gA.1 gA.2;have gLA:x.a.toNat<ps.length:=by omega
 have gEB:=gE x.b gB.1 gB.2;have gLB:x.b.toNat<ps.length:=by omega
 clear gE;generalize getK ks x.a=A at gEA ⊢;generalize getK ks x.b=B at gEB ⊢;obtain ⟨xk,xa,xb,xc,xvk,xvn,xs,xnm,xat⟩:=x;simp only at hk gA gEA gLA gB gEB gLB ⊢;subst hk
 cases b0:eqI A B with
 | false =>
  cases b1:eqI A 1 with
  | false =>
   cases b2:eqI A 3 with
   | false =>
    simp -implicitDefEqProofs (disch:=omega) [-List.getElem?_map,-List.map_map,-List.map_set,-storeD,-getElem?_pos,e0,e1,e5,e6,fq,usesN,hk',gA,gEA,gLA,gB,gEB,gLB,b0,b1,b2,Wp_some];rw [h0]; refine ⟨rfl,?_,?_,?_,?_,hK1⟩<;>simp [e0,e1,e5]
   | true =>
    simp -implicitDefEqProofs (disch:=omega) [-List.getElem?_map,-List.map_map,-List.map_set,-storeD,-getElem?_pos,e0,e1,e5,e6,fq,usesN,hk',gA,gEA,gLA,gB,gEB,gLB,b0,b1,b2,Wp_some];rw [h0]; refine ⟨rfl,?_,?_,?_,?_,hK1⟩<;>simp [e0,e1,e5]
  | true =>
   cases b2:eqI A 3 with
   | false =>
    simp -implicitDefEqProofs (disch:=omega) [-List.getElem?_map,-List.map_map,-List.map_set,-storeD,-getElem?_pos,e0,e1,e5,e6,fq,usesN,hk',gA,gEA,gLA,gB,gEB,gLB,b0,b1,b2,Wp_some];rw [h0]; refine ⟨rfl,?_,?_,?_,?_,hK1⟩<;>simp [e0,e1,e5]
   | true =>
    simp -implicitDefEqProofs (disch:=omega) [-List.getElem?_map,-List.map_map,-List.map_set,-storeD,-getElem?_pos,e0,e1,e5,e6,fq,usesN,hk',gA,gEA,gLA,gB,gEB,gLB,b0,b1,b2,Wp_some];rw [h0]; refine ⟨rfl,?_,?_,?_,?_,hK1⟩<;>simp [e0,e1,e5]
 | true =>
  cases b1:eqI A 1 with
  | false =>
   cases b2:eqI A 3 with
   | false =>
    simp -implicitDefEqProofs (disch:=omega) [-List.getElem?_map,-List.map_map,-List.map_set,-storeD,-getElem?_pos,e0,e1,e5,e6,fq,usesN,hk',gA,gEA,gLA,gB,gEB,gLB,b0,b1,b2,Wp_some];rw [h0]; refine ⟨rfl,?_,?_,?_,?_,hK1⟩<;>simp [e0,e1,e5]
   | true =>
    simp -implicitDefEqProofs (disch:=omega) [-List.getElem?_map,-List.map_map,-List.map_set,-storeD,-getElem?_pos,e0,e1,e5,e6,fq,usesN,hk',gA,gEA,gLA,gB,gEB,gLB,b0,b1,b2,Wp_some];refine ⟨rfl,?_,?_,?_,?_,hK2 _⟩<;>simp [e0,e1,e5]
  | true =>
   cases b2:eqI A 3 with
   | false =>
    simp -implicitDefEqProofs (disch:=omega) [-List.getElem?_map,-List.map_map,-List.map_set,-storeD,-getElem?_pos,e0,e1,e5,e6,fq,usesN,hk',gA,gEA,gLA,gB,gEB,gLB,b0,b1,b2,Wp_some];refine ⟨rfl,?_,?_,?_,?_,hK2 _⟩<;>simp [e0,e1,e5]
   | true =>
    simp -implicitDefEqProofs (disch:=omega) [-List.getElem?_map,-List.map_map,-List.map_set,-storeD,-getElem?_pos,e0,e1,e5,e6,fq,usesN,hk',gA,gEA,gLA,gB,gEB,gLB,b0,b1,b2,Wp_some];refine ⟨rfl,?_,?_,?_,?_,hK2 _⟩<;>simp [e0,e1,e5]
theorem r53_11 (hk:x.k=11∨x.k=12)(gA:0≤x.a∧x.a<k)(gB:0≤x.b∧x.b<k)(h0:ks.set k 0=ks) :
  Wp (LB cx prim 53 Tryz.f53 0 ⟨183,env,h⟩) fun x' st'=>x' = .norm∧P53 ps y (ks.set k (if eqI (getK ks x.a) (getK ks x.b)&&ltI 0 (getK ks x.a) then 2 else 0)) (k+1) st':=by
 rw [LB_run nd53 rfl];have c1:(k:Int)<ps.length:=by omega
 have hK1:=hK.push (.row 57 9 [.t (prP x)]);have hK2:∀ v:Int,KR (ks.set k v) ((h.push (.row 57 9 [.t (prP x)])).set 0 (.row 3 1 (((ks.set k v).map iv).map .t))):=fun v=>hK1.set
 obtain ⟨E,fq,gE⟩:=pre53 hk' hln hx hks e0 e1 e5 e6 hK;have gEA:=gE x.a gA.1 gA.2;have gLA:x.a.toNat<ps.length:=by omega
 have gEB:=gE x.b gB.1 gB.2;have gLB:x.b.toNat<ps.length:=by omega
 clear gE;generalize getK ks x.a=A at gEA ⊢;generalize getK ks x.b=B at gEB ⊢;obtain ⟨xk,xa,xb,xc,xvk,xvn,xs,xnm,xat⟩:=x;simp only at hk gA gEA gLA gB gEB gLB ⊢;rcases hk with rfl|rfl
 all_goals
  cases b0:eqI A B with
  | false =>
   cases b1:ltI 0 A with
   | false =>
    simp -implicitDefEqProofs (disch:=omega) [-List.getElem?_map,-List.map_map,-List.map_set,-storeD,-getElem?_pos,e0,e1,e5,e6,fq,usesN,hk',gA,gEA,gLA,gB,gEB,gLB,b0,b1,Wp_some];rw [h0]; refine ⟨rfl,?_,?_,?_,?_,hK1⟩<;>simp [e0,e1,e5]
   | true =>
    simp -implicitDefEqProofs (disch:=omega) [-List.getElem?_map,-List.map_map,-List.map_set,-storeD,-getElem?_pos,e0,e1,e5,e6,fq,usesN,hk',gA,gEA,gLA,gB,gEB,gLB,b0,b1,Wp_some];rw [h0]; refine ⟨rfl,?_,?_,?_,?_,hK1⟩<;>simp [e0,e1,e5]
  | true =>
   cases b1:ltI 0 A with
   | false =>
    simp -implicitDefEqProofs (disch:=omega) [-List.getElem?_map,-List.map_map,-List.map_set,-storeD,-getElem?_pos,e0,e1,e5,e6,fq,usesN,hk',gA,gEA,gLA,gB,gEB,gLB,b0,b1,Wp_some];rw [h0]; refine ⟨rfl,?_,?_,?_,?_,hK1⟩<;>simp [e0,e1,e5]
   | true =>
    simp -implicitDefEqProofs (disch:=omega) [-List.getElem?_map,-List.map_map,-List.map_set,-storeD,-getElem?_pos,e0,e1,e5,e6,fq,usesN,hk',gA,gEA,gLA,gB,gEB,gLB,b0,b1,Wp_some];refine ⟨rfl,?_,?_,?_,?_,hK2 _⟩<;>simp [e0,e1,e5]
theorem r53_13 (hk:x.k=13∨x.k=14∨x.k=15∨x.k=16)(gA:0≤x.a∧x.a<k)(gB:0≤x.b∧x.b<k)(h0:ks.set k 0=ks) :
  Wp (LB cx prim 53 Tryz.f53 0 ⟨183,env,h⟩) fun x' st'=>x' = .norm∧P53 ps y (ks.set k (if eqI (getK ks x.a) (getK ks x.b)&&(eqI (getK ks x.a) 1||eqI (getK ks x.a) 3) then 2 else 0)) (k+1) st':=by
 rw [LB_run nd53 rfl];have c1:(k:Int)<ps.length:=by omega
 have hK1:=hK.push (.row 57 9 [.t (prP x)]);have hK2:∀ v:Int,KR (ks.set k v) ((h.push (.row 57 9 [.t (prP x)])).set 0 (.row 3 1 (((ks.set k v).map iv).map .t))):=fun v=>hK1.set
 obtain ⟨E,fq,gE⟩:=pre53 hk' hln hx hks e0 e1 e5 e6 hK;have gEA:=gE x.a gA.1 gA.2;have gLA:x.a.toNat<ps.length:=by omega
 have gEB:=gE x.b gB.1 gB.2;have gLB:x.b.toNat<ps.length:=by omega
 clear gE;generalize getK ks x.a=A at gEA ⊢;generalize getK ks x.b=B at gEB ⊢;obtain ⟨xk,xa,xb,xc,xvk,xvn,xs,xnm,xat⟩:=x;simp only at hk gA gEA gLA gB gEB gLB ⊢;rcases hk with rfl|rfl|rfl|rfl
 all_goals
  cases b0:eqI A B with
  | false =>
   cases b1:eqI A 1 with
   | false =>
    cases b2:eqI A 3 with
    | false =>
     simp -implicitDefEqProofs (disch:=omega) [-List.getElem?_map,-List.map_map,-List.map_set,-storeD,-getElem?_pos,e0,e1,e5,e6,fq,usesN,hk',gA,gEA,gLA,gB,gEB,gLB,b0,b1,b2,Wp_some];rw [h0]; refine ⟨rfl,?_,?_,?_,?_,hK1⟩<;>simp [e0,e1,e5]
    | true =>
     simp -implicitDefEqProofs (disch:=omega) [-List.getElem?_map,-List.map_map,-List.map_set,-storeD,-getElem?_pos,e0,e1,e5,e6,fq,usesN,hk',gA,gEA,gLA,gB,gEB,gLB,b0,b1,b2,Wp_some];rw [h0]; refine ⟨rfl,?_,?_,?_,?_,hK1⟩<;>simp [e0,e1,e5]
   | true =>
    cases b2:eqI A 3 with
    | false =>
     simp -implicitDefEqProofs (disch:=omega) [-List.getElem?_map,-List.map_map,-List.map_set,-storeD,-getElem?_pos,e0,e1,e5,e6,fq,usesN,hk',gA,gEA,gLA,gB,gEB,gLB,b0,b1,b2,Wp_some];rw [h0]; refine ⟨rfl,?_,?_,?_,?_,hK1⟩<;>simp [e0,e1,e5]
    | true =>
     simp -implicitDefEqProofs (disch:=omega) [-List.getElem?_map,-List.map_map,-List.map_set,-storeD,-getElem?_pos,e0,e1,e5,e6,fq,usesN,hk',gA,gEA,gLA,gB,gEB,gLB,b0,b1,b2,Wp_some];rw [h0]; refine ⟨rfl,?_,?_,?_,?_,hK1⟩<;>simp [e0,e1,e5]
  | true =>
   cases b1:eqI A 1 with
   | false =>
    cases b2:eqI A 3 with
    | false =>
     simp -implicitDefEqProofs (disch:=omega) [-List.getElem?_map,-List.map_map,-List.map_set,-storeD,-getElem?_pos,e0,e1,e5,e6,fq,usesN,hk',gA,gEA,gLA,gB,gEB,gLB,b0,b1,b2,Wp_some];rw [h0]; refine ⟨rfl,?_,?_,?_,?_,hK1⟩<;>simp [e0,e1,e5]
    | true =>
     simp -implicitDefEqProofs (disch:=omega) [-List.getElem?_map,-List.map_map,-List.map_set,-storeD,-getElem?_pos,e0,e1,e5,e6,fq,usesN,hk',gA,gEA,gLA,gB,gEB,gLB,b0,b1,b2,Wp_some];refine ⟨rfl,?_,?_,?_,?_,hK2 _⟩<;>simp [e0,e1,e5]
   | true =>
    cases b2:eqI A 3 with
    | false =>
     simp -implicitDefEqProofs (disch:=omega) [-List.getElem?_map,-List.map_map,-List.map_set,-storeD,-getElem?_pos,e0,e1,e5,e6,fq,usesN,hk',gA,gEA,gLA,gB,gEB,gLB,b0,b1,b2,Wp_some];refine ⟨rfl,?_,?_,?_,?_,hK2 _⟩<;>simp [e0,e1,e5]
    | true =>
     simp -implicitDefEqProofs (disch:=omega) [-List.getElem?_map,-List.map_map,-List.map_set,-storeD,-getElem?_pos,e0,e1,e5,e6,fq,usesN,hk',gA,gEA,gLA,gB,gEB,gLB,b0,b1,b2,Wp_some];refine ⟨rfl,?_,?_,?_,?_,hK2 _⟩<;>simp [e0,e1,e5]
theorem r53_17 (hk:x.k=17∨x.k=18)(gA:0≤x.a∧x.a<k)(gB:0≤x.b∧x.b<k)(h0:ks.set k 0=ks) :
  Wp (LB cx prim 53 Tryz.f53 0 ⟨183,env,h⟩) fun x' st'=>x' = .norm∧P53 ps y (ks.set k (if eqI (getK ks x.a) 2&&eqI (getK ks x.b) 2 then 2 else 0)) (k+1) st':=by
 rw [LB_run nd53 rfl];have c1:(k:Int)<ps.length:=by omega
 have hK1:=hK.push (.row 57 9 [.t (prP x)]);have hK2:∀ v:Int,KR (ks.set k v) ((h.push (.row 57 9 [.t (prP x)])).set 0 (.row 3 1 (((ks.set k v).map iv).map .t))):=fun v=>hK1.set
 obtain ⟨E,fq,gE⟩:=pre53 hk' hln hx hks e0 e1 e5 e6 hK;have gEA:=gE x.a gA.1 gA.2;have gLA:x.a.toNat<ps.length:=by omega
 have gEB:=gE x.b gB.1 gB.2;have gLB:x.b.toNat<ps.length:=by omega
 clear gE;generalize getK ks x.a=A at gEA ⊢;generalize getK ks x.b=B at gEB ⊢;obtain ⟨xk,xa,xb,xc,xvk,xvn,xs,xnm,xat⟩:=x;simp only at hk gA gEA gLA gB gEB gLB ⊢;rcases hk with rfl|rfl
 all_goals
  cases b0:eqI A 2 with
  | false =>
   cases b1:eqI B 2 with
   | false =>
    simp -implicitDefEqProofs (disch:=omega) [-List.getElem?_map,-List.map_map,-List.map_set,-storeD,-getElem?_pos,e0,e1,e5,e6,fq,usesN,hk',gA,gEA,gLA,gB,gEB,gLB,b0,b1,Wp_some];rw [h0]; refine ⟨rfl,?_,?_,?_,?_,hK1⟩<;>simp [e0,e1,e5]
   | true =>
    simp -implicitDefEqProofs (disch:=omega) [-List.getElem?_map,-List.map_map,-List.map_set,-storeD,-getElem?_pos,e0,e1,e5,e6,fq,usesN,hk',gA,gEA,gLA,gB,gEB,gLB,b0,b1,Wp_some];rw [h0]; refine ⟨rfl,?_,?_,?_,?_,hK1⟩<;>simp [e0,e1,e5]
  | true =>
   cases b1:eqI B 2 with
   | false =>
    simp -implicitDefEqProofs (disch:=omega) [-List.getElem?_map,-List.map_map,-List.map_set,-storeD,-getElem?_pos,e0,e1,e5,e6,fq,usesN,hk',gA,gEA,gLA,gB,gEB,gLB,b0,b1,Wp_some];rw [h0]; refine ⟨rfl,?_,?_,?_,?_,hK1⟩<;>simp [e0,e1,e5]
   | true =>
    simp -implicitDefEqProofs (disch:=omega) [-List.getElem?_map,-List.map_map,-List.map_set,-storeD,-getElem?_pos,e0,e1,e5,e6,fq,usesN,hk',gA,gEA,gLA,gB,gEB,gLB,b0,b1,Wp_some];refine ⟨rfl,?_,?_,?_,?_,hK2 _⟩<;>simp [e0,e1,e5]
theorem r53_19 (hk:x.k=19)(gA:0≤x.a∧x.a<k)(gB:0≤x.b∧x.b<k)(gC:0≤x.c∧x.c<k)(h0:ks.set k 0=ks) :
  Wp (LB cx prim 53 Tryz.f53 0 ⟨183,env,h⟩) fun x' st'=>x' = .norm∧P53 ps y (ks.set k (if eqI (getK ks x.a) 2&&eqI (getK ks x.b) (getK ks x.c) then getK ks x.b else 0)) (k+1) st':=by
 rw [LB_run nd53 rfl];have c1:(k:Int)<ps.length:=by omega
 have hK1:=hK.push (.row 57 9 [.t (prP x)]);have hK2:∀ v:Int,KR (ks.set k v) ((h.push (.row 57 9 [.t (prP x)])).set 0 (.row 3 1 (((ks.set k v).map iv).map .t))):=fun v=>hK1.set
 obtain ⟨E,fq,gE⟩:=pre53 hk' hln hx hks e0 e1 e5 e6 hK;have gEA:=gE x.a gA.1 gA.2;have gLA:x.a.toNat<ps.length:=by omega
 have gEB:=gE x.b gB.1 gB.2;have gLB:x.b.toNat<ps.length:=by omega
 have gEC:=gE x.c gC.1 gC.2;have gLC:x.c.toNat<ps.length:=by omega
 clear gE;generalize getK ks x.a=A at gEA ⊢;generalize getK ks x.b=B at gEB ⊢;generalize getK ks x.c=C at gEC ⊢;obtain ⟨xk,xa,xb,xc,xvk,xvn,xs,xnm,xat⟩:=x;simp only at hk gA gEA gLA gB gEB gLB gC gEC gLC ⊢;subst hk
 cases b0:eqI A 2 with
 | false =>
  cases b1:eqI B C with
  | false =>
   simp -implicitDefEqProofs (disch:=omega) [-List.getElem?_map,-List.map_map,-List.map_set,-storeD,-getElem?_pos,e0,e1,e5,e6,fq,usesN,hk',gA,gEA,gLA,gB,gEB,gLB,gC,gEC,gLC,b0,b1,Wp_some];rw [h0]; refine ⟨rfl,?_,?_,?_,?_,hK1⟩<;>simp [e0,e1,e5]
  | true =>
   simp -implicitDefEqProofs (disch:=omega) [-List.getElem?_map,-List.map_map,-List.map_set,-storeD,-getElem?_pos,e0,e1,e5,e6,fq,usesN,hk',gA,gEA,gLA,gB,gEB,gLB,gC,gEC,gLC,b0,b1,Wp_some];rw [h0]; refine ⟨rfl,?_,?_,?_,?_,hK1⟩<;>simp [e0,e1,e5]
 | true =>
  cases b1:eqI B C with
  | false =>
   simp -implicitDefEqProofs (disch:=omega) [-List.getElem?_map,-List.map_map,-List.map_set,-storeD,-getElem?_pos,e0,e1,e5,e6,fq,usesN,hk',gA,gEA,gLA,gB,gEB,gLB,gC,gEC,gLC,b0,b1,Wp_some];rw [h0]; refine ⟨rfl,?_,?_,?_,?_,hK1⟩<;>simp [e0,e1,e5]
  | true =>
   simp -implicitDefEqProofs (disch:=omega) [-List.getElem?_map,-List.map_map,-List.map_set,-storeD,-getElem?_pos,e0,e1,e5,e6,fq,usesN,hk',gA,gEA,gLA,gB,gEB,gLB,gC,gEC,gLC,b0,b1,Wp_some];refine ⟨rfl,?_,?_,?_,?_,hK2 _⟩<;>simp [e0,e1,e5]
theorem r53_1 (hk:x.k=1)(h0:ks.set k 0=ks)(hxs:x.s.size≤1000000000) :
  Wp (LB cx prim 53 Tryz.f53 0 ⟨183,env,h⟩) fun x' st'=>x' = .norm∧P53 ps y (ks.set k (if mayV x.vk x.vn x.s then x.vk else 0)) (k+1) st':=by
 rw [LB_run nd53 rfl];have c1:(k:Int)<ps.length:=by omega
 have hK1:=hK.push (.row 57 9 [.t (prP x)]);have hK2:∀ v:Int,KR (ks.set k v) ((h.push (.row 57 9 [.t (prP x)])).set 0 (.row 3 1 (((ks.set k v).map iv).map .t))):=fun v=>hK1.set
 obtain ⟨E,fq,gE⟩:=pre53 hk' hln hx hks e0 e1 e5 e6 hK;clear gE;have q23:=fun h=>c23 (c:=53) x.vk x.vn x.s h hxs rfl
 obtain ⟨xk,xa,xb,xc,xvk,xvn,xs,xnm,xat⟩:=x;simp only at hk q23 ⊢;subst hk
 cases b0:mayV xvk xvn xs with
 | false =>
  rw [b0] at q23;simp -implicitDefEqProofs (disch:=omega) [-List.getElem?_map,-List.map_map,-List.map_set,-storeD,-getElem?_pos,e0,e1,e5,e6,fq,usesN,hk',q23,b0,Wp_some];rw [h0]; refine ⟨rfl,?_,?_,?_,?_,hK1⟩<;>simp [e0,e1,e5]
 | true =>
  rw [b0] at q23;simp -implicitDefEqProofs (disch:=omega) [-List.getElem?_map,-List.map_map,-List.map_set,-storeD,-getElem?_pos,e0,e1,e5,e6,fq,usesN,hk',q23,b0,Wp_some];refine ⟨rfl,?_,?_,?_,?_,hK2 _⟩<;>simp [e0,e1,e5]
theorem r53_2 (hk:x.k=2)(hy:Slice y (ds.map decT))(hld:ds.length≤2000000) :
  Wp (LB cx prim 53 Tryz.f53 0 ⟨183,env,h⟩) fun x' st'=>x' = .norm∧P53 ps y (ks.set k (kind3 (declK ds x.nm))) (k+1) st':=by
 rw [LB_run nd53 rfl];have c1:(k:Int)<ps.length:=by omega
 have hK1:=hK.push (.row 57 9 [.t (prP x)]);have hK2:∀ v:Int,KR (ks.set k v) ((h.push (.row 57 9 [.t (prP x)])).set 0 (.row 3 1 (((ks.set k v).map iv).map .t))):=fun v=>hK1.set
 obtain ⟨E,fq,gE⟩:=pre53 hk' hln hx hks e0 e1 e5 e6 hK;clear gE;have q97:=fun h=>c97 (c:=53) (nm:=x.nm) hy hld h rfl
 obtain ⟨xk,xa,xb,xc,xvk,xvn,xs,xnm,xat⟩:=x;simp only at hk q97 ⊢;subst hk;simp -implicitDefEqProofs (disch:=omega) [-List.getElem?_map,-List.map_map,-List.map_set,-storeD,-getElem?_pos,e0,e1,e5,e6,fq,usesN,hk',q97,Wp_some];refine ⟨rfl,?_,?_,?_,?_,hK2 _⟩<;>simp [e0,e1,e5]
theorem r53_0 (hk:x.k<1∨19<x.k)(h0:ks.set k 0=ks) :
  Wp (LB cx prim 53 Tryz.f53 0 ⟨183,env,h⟩) fun x' st'=>x' = .norm∧P53 ps y (ks.set k (0)) (k+1) st':=by
 rw [LB_run nd53 rfl];have c1:(k:Int)<ps.length:=by omega
 have hK1:=hK.push (.row 57 9 [.t (prP x)]);have hK2:∀ v:Int,KR (ks.set k v) ((h.push (.row 57 9 [.t (prP x)])).set 0 (.row 3 1 (((ks.set k v).map iv).map .t))):=fun v=>hK1.set
 obtain ⟨E,fq,gE⟩:=pre53 hk' hln hx hks e0 e1 e5 e6 hK;clear gE;obtain ⟨xk,xa,xb,xc,xvk,xvn,xs,xnm,xat⟩:=x;simp only at hk ⊢;rcases hk with hk|hk
 all_goals
  have n1:¬ (3≤xk∧xk≤5):=by omega
  have n2:¬ (6≤xk∧xk≤18):=by omega
  have n3:¬ xk=19:=by omega
  have u0:usesN xk=0:=by unfold usesN; rw [if_neg n1,if_neg n2,if_neg n3]
  simp -implicitDefEqProofs (disch:=omega) [-List.getElem?_map,-List.map_map,-List.map_set,-storeD,-getElem?_pos,e0,e1,e5,e6,fq,u0,hk',Wp_some];rw [h0]; refine ⟨rfl,?_,?_,?_,?_,hK1⟩<;>simp [e0,e1,e5]
end
theorem wp_conv {r:CR}{Q Q':X→St→Prop}(h:Wp r Q)(hq:∀ x st,Q x st→Q' x st):Wp r Q':=h.elim fun x ⟨st,hr,hh⟩=>⟨x,st,hr,hq x st hh⟩
theorem round53 {ps:List PT}{y:T}{ds:List DV}{k:Nat}{x:PT}{env:Nat→D}{h:H}(hy:Slice y (ds.map decT))(hld:ds.length≤2000000)(hk':k<ps.length)(hln:ps.length≤256)(hx:ps[k]?=some x)(hxs:x.s.size≤1000000000)(hs:sidesB x k=true)
   (e0:env 0 = .t (.slice (ps.map prP))) (e1:env 1 = .t y) (e5:env 5 = .row 0 0 ps.length ps.length) (e6:env 6 = .t (.int .i64 k)) (hK:KR (padK (kindsL ps ds k) ps.length) h) :
   Wp (LB cx prim 53 Tryz.f53 0 ⟨183,env,h⟩) fun x' st'=>x' = .norm∧P53 ps y (padK (kindsL ps ds (k+1)) ps.length) (k+1) st':=by
 have hkl:=kindsL_len ps ds k;have hpl:(padK (kindsL ps ds k) ps.length).length=ps.length:=padK_len (by omega)
 have hall:allIn (usesS x) k=true:=hs;have hset:∀ v,kdS x ds (getK (kindsL ps ds k))=v→(padK (kindsL ps ds k) ps.length).set k v=padK (kindsL ps ds (k+1)) ps.length:=fun v hv=>by
   rw [kindsL_at hx,hv,←padK_set (by omega),hkl]
 have h0:(padK (kindsL ps ds k) ps.length).set k 0=padK (kindsL ps ds k) ps.length:=by
   have:=padK_set0 (l:=kindsL ps ds k) (n:=ps.length) (by omega)
   rw [hkl] at this;exact this
 obtain ⟨ua,ub,uc⟩:=uses_k (x:=x);have ga:3≤x.k→x.k≤19→0≤x.a∧x.a<k:=fun h1 h2=>allIn_mem hall (ua h1 h2)
 have gb:6≤x.k→x.k≤19→0≤x.b∧x.b<k:=fun h1 h2=>allIn_mem hall (ub h1 h2)
 have gc:x.k=19→0≤x.c∧x.c<k:=fun h1=>allIn_mem hall (uc h1)
 have pa:3≤x.k→x.k≤19→getK (padK (kindsL ps ds k) ps.length) x.a=getK (kindsL ps ds k) x.a:=fun h1 h2=>padK_get (ga h1 h2).1 (by rw [hkl]; exact (ga h1 h2).2)
 have pb:6≤x.k→x.k≤19→getK (padK (kindsL ps ds k) ps.length) x.b=getK (kindsL ps ds k) x.b:=fun h1 h2=>padK_get (gb h1 h2).1 (by rw [hkl]; exact (gb h1 h2).2)
 have pc:x.k=19→getK (padK (kindsL ps ds k) ps.length) x.c=getK (kindsL ps ds k) x.c:=fun h1=>padK_get (gc h1).1 (by rw [hkl]; exact (gc h1).2)
 by_cases k1:x.k=1
 · refine wp_conv (r53_1 hk' hln hx hpl e0 e1 e5 e6 hK k1 h0 hxs) fun x' st' ⟨q1,q2⟩=>⟨q1,?_⟩
   rw [hset _ (by unfold kdS; rw [if_pos k1])] at q2; exact q2
 by_cases k2:x.k=2
 · refine wp_conv (r53_2 (ds:=ds) hk' hln hx hpl e0 e1 e5 e6 hK k2 hy hld) fun x' st' ⟨q1,q2⟩=>⟨q1,?_⟩
   rw [hset _ (by unfold kdS; rw [if_neg k1,if_pos k2])] at q2; exact q2
 by_cases k3:x.k=3
 · refine wp_conv (r53_3 hk' hln hx hpl e0 e1 e5 e6 hK k3 (ga (by omega) (by omega)) h0) fun x' st' ⟨q1,q2⟩=>⟨q1,?_⟩
   rw [pa (by omega) (by omega),hset _ (by unfold kdS; rw [if_neg k1,if_neg k2,if_pos k3]; simp [eqI])] at q2; exact q2
 by_cases k4:x.k=4
 · refine wp_conv (r53_4 hk' hln hx hpl e0 e1 e5 e6 hK k4 (ga (by omega) (by omega)) h0) fun x' st' ⟨q1,q2⟩=>⟨q1,?_⟩
   rw [pa (by omega) (by omega),hset _ (by unfold kdS; rw [if_neg k1,if_neg k2,if_neg k3,if_pos k4]; simp [eqI])] at q2; exact q2
 by_cases k5:x.k=5
 · refine wp_conv (r53_5 hk' hln hx hpl e0 e1 e5 e6 hK k5 (ga (by omega) (by omega)) h0) fun x' st' ⟨q1,q2⟩=>⟨q1,?_⟩
   rw [pa (by omega) (by omega),hset _ (by unfold kdS; rw [if_neg k1,if_neg k2,if_neg k3,if_neg k4,if_pos k5]; simp [eqI])] at q2; exact q2
 by_cases k6:x.k=6∨x.k=7∨x.k=8∨x.k=10
 · refine wp_conv (r53_6 hk' hln hx hpl e0 e1 e5 e6 hK k6 (ga (by omega) (by omega)) (gb (by omega) (by omega)) h0) fun x' st' ⟨q1,q2⟩=>⟨q1,?_⟩
   rw [pa (by omega) (by omega),pb (by omega) (by omega),hset _ (by unfold kdS; rw [if_neg k1,if_neg k2,if_neg k3,if_neg k4,if_neg k5,if_pos k6]; simp [eqI])] at q2; exact q2
 by_cases k9:x.k=9
 · refine wp_conv (r53_9 hk' hln hx hpl e0 e1 e5 e6 hK k9 (ga (by omega) (by omega)) (gb (by omega) (by omega)) h0) fun x' st' ⟨q1,q2⟩=>⟨q1,?_⟩
   rw [pa (by omega) (by omega),pb (by omega) (by omega),hset _ (by unfold kdS; rw [if_neg k1,if_neg k2,if_neg k3,if_neg k4,if_neg k5,if_neg k6,if_pos k9]; simp [eqI])] at q2; exact q2
 by_cases k11:x.k=11∨x.k=12
 · refine wp_conv (r53_11 hk' hln hx hpl e0 e1 e5 e6 hK k11 (ga (by omega) (by omega)) (gb (by omega) (by omega)) h0) fun x' st' ⟨q1,q2⟩=>⟨q1,?_⟩
   rw [pa (by omega) (by omega),pb (by omega) (by omega),hset _ (by unfold kdS; rw [if_neg k1,if_neg k2,if_neg k3,if_neg k4,if_neg k5,if_neg k6,if_neg k9,if_pos k11]; simp [eqI,ltI])] at q2; exact q2
 by_cases k13:x.k=13∨x.k=14∨x.k=15∨x.k=16
 · refine wp_conv (r53_13 hk' hln hx hpl e0 e1 e5 e6 hK k13 (ga (by omega) (by omega)) (gb (by omega) (by omega)) h0) fun x' st' ⟨q1,q2⟩=>⟨q1,?_⟩
   rw [pa (by omega) (by omega),pb (by omega) (by omega),hset _ (by unfold kdS; rw [if_neg k1,if_neg k2,if_neg k3,if_neg k4,if_neg k5,if_neg k6,if_neg k9,if_neg k11,if_pos k13]; simp [eqI])] at q2; exact q2
 by_cases k17:x.k=17∨x.k=18
 · refine wp_conv (r53_17 hk' hln hx hpl e0 e1 e5 e6 hK k17 (ga (by omega) (by omega)) (gb (by omega) (by omega)) h0) fun x' st' ⟨q1,q2⟩=>⟨q1,?_⟩
   rw [pa (by omega) (by omega),pb (by omega) (by omega),hset _ (by unfold kdS; rw [if_neg k1,if_neg k2,if_neg k3,if_neg k4,if_neg k5,if_neg k6,if_neg k9,if_neg k11,if_neg k13,if_pos k17]; simp [eqI])] at q2; exact q2
 by_cases k19:x.k=19
 · refine wp_conv (r53_19 hk' hln hx hpl e0 e1 e5 e6 hK k19 (ga (by omega) (by omega)) (gb (by omega) (by omega)) (gc k19) h0) fun x' st' ⟨q1,q2⟩=>⟨q1,?_⟩
   rw [pa (by omega) (by omega),pb (by omega) (by omega),pc k19,hset _ (by unfold kdS; rw [if_neg k1,if_neg k2,if_neg k3,if_neg k4,if_neg k5,if_neg k6,if_neg k9,if_neg k11,if_neg k13,if_neg k17,if_pos k19]; simp [eqI])] at q2; exact q2
 · refine wp_conv (r53_0 hk' hln hx hpl e0 e1 e5 e6 hK (by omega) h0) fun x' st' ⟨q1,q2⟩=>⟨q1,?_⟩
   rw [hset _ (by unfold kdS; rw [if_neg k1,if_neg k2,if_neg k3,if_neg k4,if_neg k5,if_neg k6,if_neg k9,if_neg k11,if_neg k13,if_neg k17,if_neg k19])] at q2; exact q2
def sidesAll (ps:List PT):Prop:=∀ (k:Nat) (x:PT),ps[k]?=some x→sidesB x k=true
theorem s53 {ps:List PT}{y:T}{ds:List DV}(hy:Slice y (ds.map decT))(hld:ds.length≤2000000)(h0:0<ps.length)(hln:ps.length≤256)(hps:∀ x∈ps,x.s.size≤1000000000)(hs:sidesAll ps) :
  ∃ h',call cx prim 53 [.t (.slice (ps.map prP)),.t y] .empty=some (.row 0 0 ps.length ps.length,h')∧h'.objs 0=some (.row 3 1 (((kindsL ps ds ps.length).map iv).map .t)):=by
 rw [call_run (cx:=cx) rfl Tryz.func53 ok53 nd53 rfl (lbe rfl) rfl rfl];have mk:=fun h=>makeZ (n:=ps.length) h hln
 simp -implicitDefEqProofs (disch:=omega) [-List.map_replicate,-List.map_map,mk];generalize hLp:loopω _ _=L;obtain ⟨x',st',rfl,rfl,hq⟩:=loop_uses hLp ps.length
  (fun k st=>P53 ps y (padK (kindsL ps ds k) ps.length) k st)
  (fun x' st=>x' = .exit 0∧P53 ps y (kindsL ps ds ps.length) ps.length st)
  ⟨rfl,by simp,by simp,by simp,by simp,⟨by simp [kindsL,padK],by simp [H.push,H.empty],rfl⟩⟩ (by
  rintro k ⟨nn,env,h2⟩ hk ⟨rfl,e0,e1,e5,e6,hK⟩;simp only at e0 e1 e5 e6 hK;by_cases hk':k<ps.length
  · obtain ⟨x,hx⟩:∃ x,ps[k]?=some x:=⟨ps[k],by simp [hk']⟩
    exact wp_conv (round53 hy hld hk' hln hx (hps x (List.mem_of_getElem? hx)) (hs k x hx) e0 e1 e5 e6 hK) fun x' st' ⟨q1,q2⟩=>.inl ⟨q1,hk',q2⟩
  · obtain rfl:k=ps.length:=by omega
    rw [LB_run nd53 rfl];have e:padK (kindsL ps ds ps.length) ps.length=kindsL ps ds ps.length:=by simp [padK,kindsL_len]
    rw [e] at hK;simp -implicitDefEqProofs (disch:=omega) [e0,e6,Wp_some];refine ⟨rfl,?_,?_,?_,?_,hK⟩<;>simp [e0,e1,e5,e6])
 obtain ⟨nn,env,h⟩:=st';have hn:=hq.n;have h5:=hq.e5;have hK:=hq.h;simp only at hn h5 hK;subst hn;simp -implicitDefEqProofs (disch:=omega) [-List.map_map,h5];exact hK.o
theorem c53 {c:FuncId}{ps:List PT}{y:T}{ds:List DV}(hy:Slice y (ds.map decT))(hld:ds.length≤2000000)(h0:0<ps.length)(hln:ps.length≤256)(hps:∀ x∈ps,x.s.size≤1000000000)(hs:sidesAll ps)(hm:md c 53 = .pure)(h:H) :
  callD (cx.at c) (call cx prim) 53 [.t (.slice (ps.map prP)),.t y] h=some (.t (.slice ((kindsL ps ds ps.length).map iv)),h):=by
 obtain ⟨h',q,ho⟩:=s53 hy hld h0 hln hps hs;refine pureT cb53 hm q ?_ rfl;have hl:(((kindsL ps ds ps.length).map iv).map D.t).length=ps.length:=by simp [kindsL_len]
 have:snap h' (.row 0 0 ps.length ps.length)=some (.slice ((kindsL ps ds ps.length).map iv)):=by
  have e:h'.els 0 ps.length=some (3,1,((kindsL ps ds ps.length).map iv).map D.t):=by simp only [H.els,ho]; rw [if_pos hl]
  show snapF h' 5 (.row 0 0 ps.length ps.length)=_;rw [snapF_row,e];simp only [Nat.zero_add,hl,Nat.le_refl,if_true,List.drop_zero];rw [List.take_of_length_le (by omega),snapF_map]
  rfl
 show (snap h' (.row 0 0 ps.length ps.length)).map D.t=_;rw [this]; rfl
abbrev at3 (x:PT):List Int:=[x.a,x.b,x.c]
def usesC (x:PT):Nat:=(usesN x.k).toNat
theorem uses_take (x:PT):usesS x=(at3 x).take (usesC x)∧usesC x≤3∧usesN x.k=usesC x:=by
 unfold usesC usesS usesN;by_cases h1:x.k=19
 · rw [if_pos h1,if_neg (by omega),if_neg (by omega),if_pos h1]; exact ⟨rfl,by decide,rfl⟩
 · rw [if_neg h1]
   by_cases h2:6≤x.k∧x.k≤18
   · rw [if_pos h2,if_neg (by omega),if_pos h2]; exact ⟨rfl,by decide,rfl⟩
   · rw [if_neg h2]
     by_cases h3:3≤x.k∧x.k≤5
     · rw [if_pos h3,if_pos h3]; exact ⟨rfl,by decide,rfl⟩
     · rw [if_neg h3,if_neg h3,if_neg h2,if_neg h1]; exact ⟨rfl,by decide,rfl⟩
theorem l37_2 {us:List Int}{x:PT}{i n p:Nat}(hn:us.length=n)(hin:i<n)(hb0:smallU us 1000000)(hpb:p≠0){st:St}{r:CR}(hLp:loopω (LB cx prim 37 Tryz.f37 2) st=r)
   (en:st.n=109) (e5:st.env 5 = .row 0 0 n n) (e6:st.env 6 = .t (.int .i64 i)) (e7:st.env 7 = .t (.int .i64 (usesC x))) (e8:st.env 8 = .ptr p 0 0 3) (e9:st.env 9 = .t (.int .i64 0)) (hK:KR us st.h) (hp:st.h.objs p=some (.row 114 1 [.t (iv x.a),.t (iv x.b),.t (iv x.c)]))
   {d0 d1:D} (e0:st.env 0=d0) (e1:st.env 1=d1) :
   ∃ x' st',r=some (x',st')∧st'.n=109∧((x' = .exit 2∧sidesB x i=true∧st'.env 5 = .row 0 0 n n∧st'.env 6 = .t (.int .i64 i)∧st'.env 0=d0∧st'.env 1=d1∧KR ((usesS x).foldl bump us) st'.h)∨(x' = .ret∧sidesB x i=false∧st'.env 4 = .t (iv 0))):=by
 obtain ⟨hut,hu3,-⟩:=uses_take x;have hul:(usesS x).length=usesC x:=by rw [hut]; simp; omega
 rw [sidesB_allIn];refine loop_uses hLp (usesC x)
   (fun m s=>s.n=109∧s.env 5 = .row 0 0 n n∧s.env 6 = .t (.int .i64 i)∧s.env 7 = .t (.int .i64 (usesC x))∧s.env 8 = .ptr p 0 0 3∧s.env 9 = .t (.int .i64 m)∧s.env 0=d0∧s.env 1=d1 ∧
     allIn ((usesS x).take m) i=true∧KR (((usesS x).take m).foldl bump us) s.h∧s.h.objs p=some (.row 114 1 [.t (iv x.a),.t (iv x.b),.t (iv x.c)]))
   (fun x' st'=>st'.n=109∧((x' = .exit 2∧allIn (usesS x) i=true∧st'.env 5 = .row 0 0 n n∧st'.env 6 = .t (.int .i64 i)∧st'.env 0=d0∧st'.env 1=d1∧KR ((usesS x).foldl bump us) st'.h)∨(x' = .ret∧allIn (usesS x) i=false∧st'.env 4 = .t (iv 0))))
   ⟨en,e5,e6,e7,e8,e9,e0,e1,rfl,hK,hp⟩ ?_
 clear hLp en e5 e6 e7 e8 e9 e0 e1 hK hp st;rintro m ⟨nn,env,h2⟩ hm ⟨rfl,e5,e6,e7,e8,e9,e0,e1,hall,hK,hp⟩;simp only at e5 e6 e7 e8 e9 e0 e1 hK hp;rw [LB_run nd37 rfl];by_cases hm':m<usesC x
 · obtain ⟨j,hj⟩:∃ j,(usesS x)[m]?=some j:=⟨(usesS x)[m]'(by omega),List.getElem?_eq_getElem (by omega)⟩
   have hg:([.t (iv x.a),.t (iv x.b),.t (iv x.c)]:List D)[m]?=some (.t (iv j)):=by
     rw [hut,List.getElem?_take_of_lt hm'] at hj
     match m,hj with
     | 0,hj=>cases hj; rfl
     | 1,hj=>cases hj; rfl
     | 2,hj=>cases hj; rfl
   have hl3:([.t (iv x.a),.t (iv x.b),.t (iv x.c)]:List D).length=3:=rfl;have hm3:m<3:=by omega
   have c1:(m:Int)<(usesC x:Int):=by omega
   have htk:(usesS x).take (m+1)=(usesS x).take m ++ [j]:=by rw [List.take_add_one,hj]; rfl
   have hbad:¬ (0≤j∧j<i)→allIn (usesS x) i=false:=fun hn=>by
     unfold allIn;rw [List.all_eq_false];exact ⟨j,List.mem_of_getElem? hj,by simp only [decide_eq_true_eq]; exact hn⟩
   generalize hE3:([.t (iv x.a),.t (iv x.b),.t (iv x.c)]:List D)=E3 at hp hg hl3;by_cases h0:j<0
   · simp -implicitDefEqProofs (disch:=omega) [-List.getElem?_map,-storeD,-getElem?_pos,e5,e6,e7,e8,e9,hp,hg,hl3,hm3,Wp_some]
     exact hbad (by omega)
   · by_cases h1:(i:Int)≤j
     · simp -implicitDefEqProofs (disch:=omega) [-List.getElem?_map,-storeD,-getElem?_pos,e5,e6,e7,e8,e9,hp,hg,hl3,hm3,h0,Wp_some]
       exact hbad (by omega)
     · have hul:(((usesS x).take m).foldl bump us).length=n:=by rw [bumps_len,hn]
       have hju:j.toNat<(((usesS x).take m).foldl bump us).length:=by omega
       have hget:(((((usesS x).take m).foldl bump us).map iv).map D.t)[j.toNat]?=some (.t (iv (getK (((usesS x).take m).foldl bump us) j))):=by
         rw [List.getElem?_map,List.getElem?_map,getK_some (by omega) (by omega)]; rfl
       have hst:=P0.store_iv hK.o hju (getK (((usesS x).take m).foldl bump us) j+1);have hK2:=hK.set (ks':=bump (((usesS x).take m).foldl bump us) j);have hsm:=(hb0.bumps (js:=(usesS x).take m) (by omega)).get (by omega) j
       have hlen3:(((usesS x).take m).length:Int)≤3:=by simp; omega
       have hbr:=hK.o;have hbu:(bump (((usesS x).take m).foldl bump us) j)=(((usesS x).take m).foldl bump us).set j.toNat (getK (((usesS x).take m).foldl bump us) j+1):=rfl;have hfo:((usesS x).take (m+1)).foldl bump us=bump (((usesS x).take m).foldl bump us) j:=by rw [htk,List.foldl_append]; rfl
       rw [hul] at hst hju;rw [←hbu] at hst;generalize hU:((usesS x).take m).foldl bump us=U at *;have hlu:((U.map iv).map D.t).length=n:=by simp [hul]
       have hjn:j.toNat<n:=hju;have hK2':=hK2;clear hK2;generalize hE:(U.map iv).map D.t=E at hbr hget hlu;simp -implicitDefEqProofs (disch:=omega) [-List.getElem?_map,-List.map_map,-storeD,-getElem?_pos,e5,e6,e7,e8,e9,e0,e1,hp,hg,hl3,hm3,h0,h1,hbr,hget,hst,hlu,hjn,Wp_some];refine ⟨hm',?_,?_,?_⟩
       · unfold allIn at hall ⊢
         rw [htk,List.all_append,hall];simp; omega
       · rw [hfo]; exact hK2'
       · exact fun h=>absurd h hpb
 · obtain rfl:m=usesC x:=by omega
   rw [List.take_of_length_le (by omega)] at hall hK
   simp -implicitDefEqProofs (disch:=omega) [e5,e6,e7,e8,e9,e0,e1,Wp_some];exact ⟨hall,hK⟩
theorem l37_0 {ps:List PT}(hln:ps.length≤256){st:St}{r:CR}(hLp:loopω (LB cx prim 37 Tryz.f37 0) st=r)
   (en:st.n=109) (e0:st.env 0 = .t (.slice (ps.map prP))) {y:T} (e1:st.env 1 = .t y) (e5:st.env 5 = .row 0 0 ps.length ps.length) (e6:st.env 6 = .t (.int .i64 0)) (hK:KR (usedL ps 0) st.h) :
   ∃ x' st',r=some (x',st')∧st'.n=109∧((x' = .exit 0∧sidesAll ps∧st'.env 0 = .t (.slice (ps.map prP))∧st'.env 1 = .t y∧st'.env 5 = .row 0 0 ps.length ps.length∧KR (usedL ps ps.length) st'.h)∨(x' = .ret∧¬ sidesAll ps∧st'.env 4 = .t (iv 0))):=by
 refine loop_uses hLp ps.length
   (fun k s=>s.n=109∧s.env 0 = .t (.slice (ps.map prP))∧s.env 1 = .t y∧s.env 5 = .row 0 0 ps.length ps.length∧s.env 6 = .t (.int .i64 k)∧(∀ j x,j<k→ps[j]?=some x→sidesB x j=true)∧KR (usedL ps k) s.h)
   (fun x' st'=>st'.n=109∧((x' = .exit 0∧sidesAll ps∧st'.env 0 = .t (.slice (ps.map prP))∧st'.env 1 = .t y∧st'.env 5 = .row 0 0 ps.length ps.length∧KR (usedL ps ps.length) st'.h)∨(x' = .ret∧¬ sidesAll ps∧st'.env 4 = .t (iv 0))))
   ⟨en,e0,e1,e5,e6,fun j x h=>by omega,hK⟩ ?_
 clear hLp en e0 e1 e5 e6 hK st;rintro k ⟨nn,env,h⟩ hk ⟨rfl,e0,e1,e5,e6,hall,hK⟩;simp only at e0 e1 e5 e6 hK;rw [LB_run nd37 rfl];by_cases hk':k<ps.length
 · obtain ⟨x,hx⟩:∃ x,ps[k]?=some x:=⟨ps[k],by simp [hk']⟩
   have hgx:(ps.map prP)[k]?=some (prP x):=by rw [List.getElem?_map,hx]; rfl
   have c1:(k:Int)<ps.length:=by omega
   have q67:=fun k h=>c67 (c:=37) k h rfl
   have hu:=(uses_take x).2.2;have hK1:=hK.push (.row 114 1 [.t (iv x.a),.t (iv x.b),.t (iv x.c)]);simp -implicitDefEqProofs (disch:=omega) [-List.getElem?_map,e0,e1,e5,e6,hgx,q67,hu,md,push_set];generalize hLp:loopω (LB cx prim 37 Tryz.f37 2) _=R;obtain ⟨x',⟨nn,env2,h3⟩,rfl,rfl,hq⟩:=l37_2 (us:=usedL ps k) (x:=x) (i:=k) (n:=ps.length) (p:=h.next) (usedL_len ps k) hk' (fun t v hv=>by have:=usedL_small ps k t v hv; omega) (by have:=hK.l; omega) hLp rfl
     (by simp [e5]) (by simp [e6]) (by simp [hu]) (by simp) (by simp) hK1 (by simp) (d0:=.t (.slice (ps.map prP))) (d1:=.t y) (by simp [e0]) (by simp [e1])
   rcases hq with ⟨rfl,hs,f5,f6,f0,f1,hK2⟩|⟨rfl,hs,f4⟩
   · simp only at f5 f6 f0 f1 hK2
     simp -implicitDefEqProofs (disch:=omega) [f5,f6,f0,f1,Wp_some];refine ⟨hk',fun j z hj hz=>?_,by rw [usedL_at hx]; exact hK2⟩
     by_cases e:j=k
     · subst e; rw [hx] at hz; cases hz; exact hs
     · exact hall j z (by omega) hz
   · simp only at f4
     simp -implicitDefEqProofs (disch:=omega) [f4,Wp_some];intro hsa;have:=hsa k x hx;rw [hs] at this; cases this
 · obtain rfl:k=ps.length:=by omega
   simp -implicitDefEqProofs (disch:=omega) [e0,e1,e5,e6,Wp_some];exact ⟨fun j x hx=>hall j x (by
     rcases Nat.lt_or_ge j ps.length with h1|h1
     · exact h1
     · rw [List.getElem?_eq_none h1] at hx; cases hx) hx,hK⟩
def okAt37 (ks us:List Int)(n k:Nat):Bool:=!decide (getK ks k=0)&&(!decide (k<n-1)||decide (getK us k=1))
theorem l37_4 {ps:List PT}{ks us:List Int}(hln:ps.length≤256)(h0:0<ps.length)(hks:ks.length=ps.length)(hus:us.length=ps.length){st:St}{r:CR}(hLp:loopω (LB cx prim 37 Tryz.f37 4) st=r)
   (en:st.n=109) (e0:st.env 0 = .t (.slice (ps.map prP))) (e5:st.env 5 = .row 0 0 ps.length ps.length) (e10:st.env 10 = .t (.slice (ks.map iv))) (e11:st.env 11 = .t (.int .i64 0)) (hK:KR us st.h) :
   ∃ x' st',r=some (x',st')∧st'.n=109∧((x' = .exit 4∧(∀ k,k<ps.length→okAt37 ks us ps.length k=true)∧st'.env 0 = .t (.slice (ps.map prP))∧st'.env 10 = .t (.slice (ks.map iv)))∨(x' = .ret∧(∃ k,k<ps.length∧okAt37 ks us ps.length k=false)∧st'.env 4 = .t (iv 0))):=by
 refine loop_uses hLp ps.length
   (fun k s=>s.n=109∧s.env 0 = .t (.slice (ps.map prP))∧s.env 5 = .row 0 0 ps.length ps.length∧s.env 10 = .t (.slice (ks.map iv))∧s.env 11 = .t (.int .i64 k)∧(∀ j,j<k→okAt37 ks us ps.length j=true)∧KR us s.h)
   (fun x' st'=>st'.n=109∧((x' = .exit 4∧(∀ k,k<ps.length→okAt37 ks us ps.length k=true)∧st'.env 0 = .t (.slice (ps.map prP))∧st'.env 10 = .t (.slice (ks.map iv)))∨(x' = .ret∧(∃ k,k<ps.length∧okAt37 ks us ps.length k=false)∧st'.env 4 = .t (iv 0))))
   ⟨en,e0,e5,e10,e11,fun j h=>by omega,hK⟩ ?_
 clear hLp en e0 e5 e10 e11 hK st;rintro k ⟨nn,env,h⟩ hk ⟨rfl,e0,e5,e10,e11,hall,hK⟩;simp only at e0 e5 e10 e11 hK;rw [LB_run nd37 rfl];by_cases hk':k<ps.length
 · have c1:(k:Int)<ps.length:=by omega
   have gk:(ks.map iv)[k]?=some (iv (getK ks k)):=by
    have:=getK_some (l:=ks) (j:=k) (by omega) (by omega)
    rw [Int.toNat_natCast] at this;rw [List.getElem?_map,this]; rfl
   have gu:((us.map iv).map D.t)[k]?=some (.t (iv (getK us k))):=by
    have:=getK_some (l:=us) (j:=k) (by omega) (by omega)
    rw [Int.toNat_natCast] at this;rw [List.getElem?_map,List.getElem?_map,this]; rfl
   have oU:=hK.o;have lU:((us.map iv).map D.t).length=ps.length:=by simp [hus]
   generalize (us.map iv).map D.t=E at oU gu lU;have hstep:okAt37 ks us ps.length k=true→∀ j,j<k+1→okAt37 ks us ps.length j=true:=fun hk j hj=>by
    by_cases e:j=k
    · subst e; exact hk
    · exact hall j (by omega)
   have hbad:okAt37 ks us ps.length k=false→∃ k,k<ps.length∧okAt37 ks us ps.length k=false:=fun h=>⟨k,hk',h⟩
   have hB:okAt37 ks us ps.length k=(!eqI (getK ks k) 0&&(!decide (k<ps.length-1)||eqI (getK us k) 1)):=rfl
   generalize okAt37 ks us ps.length k=B at hstep hbad hB;generalize getK ks k=A at gk hB;generalize getK us k=U at gu hB
   cases a0:eqI A 0 with
   | true =>
    rw [a0] at hB;simp -implicitDefEqProofs (disch:=omega) [-List.getElem?_map,-List.map_map,-getElem?_pos,e0,e5,e10,e11,gk,a0,Wp_some];exact hbad hB
   | false =>
    rw [a0] at hB;by_cases hlt:k<ps.length-1
    · have c2:(k:Int)<(ps.length:Int)-1:=by omega
      have d2:decide (k<ps.length-1)=true:=by simpa using hlt
      rw [d2] at hB
      cases u1:eqI U 1 with
      | true =>
       rw [u1] at hB;simp -implicitDefEqProofs (disch:=omega) [-List.getElem?_map,-List.map_map,-getElem?_pos,e0,e5,e10,e11,gk,a0,oU,gu,lU,hk',u1,Wp_some];exact ⟨hstep hB,hK⟩
      | false =>
       rw [u1] at hB;simp -implicitDefEqProofs (disch:=omega) [-List.getElem?_map,-List.map_map,-getElem?_pos,e0,e5,e10,e11,gk,a0,oU,gu,lU,hk',u1,Wp_some];exact hbad hB
    · have c2:(ps.length:Int)-1≤(k:Int):=by omega
      have d2:decide (k<ps.length-1)=false:=by simpa using hlt
      rw [d2] at hB;simp -implicitDefEqProofs (disch:=omega) [-List.getElem?_map,-List.map_map,-getElem?_pos,e0,e5,e10,e11,gk,a0,Wp_some];exact ⟨hk',hstep hB,hK⟩
 · obtain rfl:k=ps.length:=by omega
   simp -implicitDefEqProofs (disch:=omega) [e0,e5,e10,e11,Wp_some];exact hall
theorem getK_kindsL {ps:List PT}{ds:List DV}{n k:Nat}{x:PT}(hk:k<n)(hx:ps[k]?=some x):getK (kindsL ps ds n) k=kdS x ds (getK (kindsL ps ds k)):=by
 unfold getK;rw [Int.toNat_natCast,kindsL_get hk,kindsL_at hx,List.getElem?_append_right (by rw [kindsL_len]; omega),kindsL_len]
 simp;rfl
theorem goodK_iff {ps:List PT}{ds:List DV}:∀ {n:Nat},n≤ps.length→(goodK ps ds n=true↔(∀ k x,k<n→ps[k]?=some x→sidesB x k=true)∧∀ k,k<n→getK (kindsL ps ds n) k≠0)
 | 0,_=>⟨fun _=>⟨fun k x h=>by omega,fun k h=>by omega⟩,fun _=>rfl⟩
 | n+1,hn=>by
  obtain ⟨x,hx⟩:∃ x,ps[n]?=some x:=⟨ps[n]'(by omega),List.getElem?_eq_getElem (by omega)⟩
  have ih:=goodK_iff (ps:=ps) (ds:=ds) (n:=n) (by omega)
  have hgk:∀ k,k<n→getK (kindsL ps ds (n+1)) k=getK (kindsL ps ds n) k:=fun k hk=>by
    unfold getK;rw [Int.toNat_natCast,kindsL_get (i:=n+1) (by omega),kindsL_get (i:=n) hk]
  constructor
  · intro h
    have hg:goodK ps ds n=true:=by
      simp only [goodK,Bool.and_eq_true] at h; exact h.1
    obtain ⟨h1,h2⟩:=ih.1 hg;rw [goodK_at hx hg] at h;simp only [Bool.and_eq_true,Bool.not_eq_true',decide_eq_false_iff_not] at h;refine ⟨fun k z hk hz=>?_,fun k hk=>?_⟩
    · by_cases e:k=n
      · subst e; rw [hx] at hz; cases hz; exact h.1
      · exact h1 k z (by omega) hz
    · by_cases e:k=n
      · subst e; rw [getK_kindsL (by omega) hx]; exact h.2
      · rw [hgk k (by omega)]; exact h2 k (by omega)
  · rintro ⟨h1,h2⟩
    have hg:goodK ps ds n=true:=ih.2 ⟨fun k z hk=>h1 k z (by omega),fun k hk=>by rw [←hgk k hk]; exact h2 k (by omega)⟩
    rw [goodK_at hx hg];simp only [Bool.and_eq_true,Bool.not_eq_true',decide_eq_false_iff_not];refine ⟨h1 n x (by omega) hx,?_⟩
    have:=h2 n (by omega)
    rwa [getK_kindsL (by omega) hx] at this
theorem sidesAll_iff {ps:List PT}:sidesAll ps↔∀ k x,k<ps.length→ps[k]?=some x→sidesB x k=true :=
 ⟨fun h k x _ hx=>h k x hx,fun h k x hx=>h k x (by
  rcases Nat.lt_or_ge k ps.length with h1|h1
  · exact h1
  · rw [List.getElem?_eq_none h1] at hx; cases hx) hx⟩
theorem ones_iff {u:List Int}{n:Nat}(hu:u.length=n):onesB (u.take (n-1))=true↔∀ k,k<n-1→getK u k=1:=by
 unfold onesB;rw [List.all_eq_true];constructor
 · intro h k hk
   have hg:=getK_some (l:=u) (j:=k) (by omega) (by omega)
   rw [Int.toNat_natCast] at hg;have hm:getK u k∈u.take (n-1):=by
    rw [List.mem_iff_getElem?];exact ⟨k,by rw [List.getElem?_take_of_lt hk]; exact hg⟩
   simpa using h _ hm
 · intro h v hv
   rw [List.mem_iff_getElem?] at hv;obtain ⟨k,hk⟩:=hv;have hlt:k<n-1:=by
    rcases Nat.lt_or_ge k (n-1) with h1|h1
    · exact h1
    · rw [List.getElem?_eq_none (by simp; omega)] at hk; cases hk
   rw [List.getElem?_take_of_lt hlt] at hk;have:=h k hlt;unfold getK at this;rw [Int.toNat_natCast,hk] at this;simpa using this
theorem kindS_ok {ps:List PT}{ds:List DV}(h0:0<ps.length)(hn:ps.length≤256)(hs:sidesAll ps)(hall:∀ k,k<ps.length→okAt37 (kindsL ps ds ps.length) (usedL ps ps.length) ps.length k=true):kindS ps ds=getK (kindsL ps ds ps.length) ((ps.length:Int)-1):=by
 unfold kindS;rw [if_neg (by omega)]
 have hg:goodK ps ds ps.length=true:=(goodK_iff (Nat.le_refl _)).2 ⟨sidesAll_iff.1 hs,fun k hk=>by
  have:=hall k hk;unfold okAt37 at this;simp at this;exact this.1⟩
 rw [if_neg (by rw [hg]; decide)]
 have ho:onesB ((usedL ps ps.length).take (ps.length-1))=true:=(ones_iff (usedL_len ps _)).2 fun k hk=>by
  have:=hall k (by omega)
  unfold okAt37 at this;simp at this;rcases this.2 with h|h
  · omega
  · exact h
 rw [if_neg (by rw [ho]; decide)]
theorem kindS_bad1 {ps:List PT}{ds:List DV}(h0:0<ps.length)(hn:ps.length≤256)(hs:¬ sidesAll ps):kindS ps ds=0:=by
 unfold kindS;rw [if_neg (by omega)]
 have hg:goodK ps ds ps.length=false:=by
  cases h:goodK ps ds ps.length with
  | false=>rfl
  | true=>exact absurd (sidesAll_iff.2 ((goodK_iff (Nat.le_refl _)).1 h).1) hs
 rw [if_pos hg]
theorem kindS_bad2 {ps:List PT}{ds:List DV}(h0:0<ps.length)(hn:ps.length≤256){k:Nat}(hk:k<ps.length)(hb:okAt37 (kindsL ps ds ps.length) (usedL ps ps.length) ps.length k=false):kindS ps ds=0:=by
 unfold kindS;rw [if_neg (by omega)]
 cases hg:goodK ps ds ps.length with
 | false=>rw [if_pos rfl]
 | true =>
  rw [if_neg (by decide)]
  have h2:=((goodK_iff (Nat.le_refl _)).1 hg).2 k hk
  cases ho:onesB ((usedL ps ps.length).take (ps.length-1)) with
  | false=>rw [if_pos rfl]
  | true =>
   exfalso;have h3:=(ones_iff (usedL_len ps _)).1 ho;unfold okAt37 at hb;simp at hb;have h4:=hb h2;exact h4.2 (h3 k h4.1)
theorem s37 {ps:List PT}{y:T}{ds:List DV}(hy:Slice y (ds.map decT))(hld:ds.length≤2000000)(h0:0<ps.length)(hln:ps.length≤256)(hps:∀ x∈ps,x.s.size≤1000000000) :
   ∃ h',call cx prim 37 [.t (.slice (ps.map prP)),.t y] .empty=some (.t (iv (kindS ps ds)),h'):=by
 rw [call_run (cx:=cx) rfl Tryz.func37 ok37 nd37 rfl (lbe rfl) rfl rfl];have mk:=fun h=>makeZ (n:=ps.length) h hln
 have e0:eqI (ps.length:Int) 0=false:=eqI_false (by omega)
 have h2:ltI 256 (ps.length:Int)=false:=ltI_false (by omega)
 simp -implicitDefEqProofs (disch:=omega) [-List.map_replicate,-List.map_map,mk,e0,h2];generalize hLp:loopω _ _=L;obtain ⟨x',⟨nn,env,h⟩,rfl,rfl,hq⟩:=l37_0 (ps:=ps) hln hLp rfl (by simp) (y:=y) (by simp) (by simp) (by simp) ⟨by simp [usedL],by simp [H.push,H.empty],rfl⟩
 clear hLp;rcases hq with ⟨rfl,hs,f0,f1,f5,hK⟩|⟨rfl,hs,f4⟩
 · simp only at f0 f1 f5 hK
   have q53:=fun h=>c53 (c:=37) hy hld h0 hln hps hs rfl h
   simp -implicitDefEqProofs (disch:=omega) [-List.map_map,f0,f1,f5,q53];generalize hLp:loopω _ _=L;obtain ⟨x',⟨nn,env,h⟩,rfl,rfl,hq⟩:=l37_4 (ps:=ps) (ks:=kindsL ps ds ps.length) (us:=usedL ps ps.length) hln h0 (kindsL_len ps ds _) (usedL_len ps _) hLp rfl (by simp [f0]) (by simp [f5]) (by simp) (by simp) hK
   clear hLp;rcases hq with ⟨rfl,hall,g0,g10⟩|⟨rfl,⟨k,hk,hb⟩,g4⟩
   · simp only at g0 g10
     rw [kindS_ok h0 hln hs hall];have hsub:(((ps.length:Int)-1).toNat)=ps.length-1:=by omega
     have gk:((kindsL ps ds ps.length).map iv)[ps.length-1]?=some (iv (getK (kindsL ps ds ps.length) ((ps.length:Int)-1))):=by
      have:=getK_some (l:=kindsL ps ds ps.length) (j:=(ps.length:Int)-1) (by omega) (by rw [kindsL_len]; omega)
      rw [hsub] at this;rw [List.getElem?_map,this]; rfl
     simp -implicitDefEqProofs (disch:=omega) [-List.map_map,-List.getElem?_map,-getElem?_pos,g0,g10,hsub,gk]
   · simp only at g4
     rw [kindS_bad2 h0 hln hk hb];simp -implicitDefEqProofs (disch:=omega) [g4]
 · simp only at f4
   rw [kindS_bad1 h0 hln hs];simp -implicitDefEqProofs (disch:=omega) [f4]
theorem c37 {ps:List PT}{ds:List DV}{l y:T}(hlp:Slice l (ps.map prP))(hy:Slice y (ds.map decT))(hl:ds.length≤2000000)(hps:∀ x∈ps,x.s.size≤1000000000)(hn:ps.length≤2000000){c:FuncId}(hm:md c 37 = .pure)(h:H) :
  callD (cx.at c) (call cx prim) 37 [.t l,.t y] h=some (.t (iv (kindS ps ds)),h):=by
 have:∃ h',call cx prim 37 [.t l,.t y] .empty=some (.t (iv (kindS ps ds)),h'):=by
  by_cases h0:ps.length=0∨256<ps.length
  · have e:kindS ps ds=0:=by unfold kindS; rw [if_pos h0]
    rw [e,call_run (cx:=cx) rfl Tryz.func37 ok37 nd37 rfl (lbe rfl) rfl rfl];have hlx:=fun hh=>hlp.len (P:=Tryz.prog) (t:=22) tk22 hh
    rw [List.length_map] at hlx;rcases h0 with h0|h0
    · have e0:(ps.length:Int)=0:=by omega
      simp -implicitDefEqProofs (disch:=omega) [hlx,e0]
    · have e0:eqI (ps.length:Int) 0=false:=eqI_false (by omega)
      have h2:ltI 256 (ps.length:Int)=true:=ltI_true (by omega)
      simp -implicitDefEqProofs (disch:=omega) [hlx,e0,h2]
  · have:l = .slice (ps.map prP):=hlp.eq_of_ne (fun e=>h0 (.inl (by simpa using e)))
    subst this;exact s37 hy hl (by omega) (by omega) hps
 obtain ⟨h',q⟩:=this;exact pureT cb37 hm q rfl rfl
end Go.Proofs.YtaldobgfbkllfaaGreatDoor

namespace Go.Proofs.YtaldobgfbkllfaaGreatDoor
open Vai P0
variable [GlP]
set_option maxHeartbeats 0
set_option maxRecDepth 100000
theorem flats_iv:∀ l:List Int,T.flat.flats (l.map iv)=true
 | []=>rfl
 | x::l=>by simp only [List.map_cons,T.flat.flats,flats_iv l,Bool.and_true]; rfl
theorem c53t {c:FuncId}{ps:List PT}{y:T}{ds:List DV}(hy:Slice y (ds.map decT))(hld:ds.length≤2000000)(h0:0<ps.length)(hln:ps.length≤256)(hps:∀ x∈ps,x.s.size≤1000000000)(hs:sidesAll ps)(hm:md c 53 = .tree){h:H}{id:Nat}
  (ho:h.objs id=some (.row 57 9 ((ps.map prP).map .t))):callD (cx.at c) (call cx prim) 53 [.row id 0 ps.length ps.length,.t y] h=some (.t (.slice ((kindsL ps ds ps.length).map iv)),h):=by
 obtain ⟨h',q,ho'⟩:=s53 hy hld h0 hln hps hs;have h1:Vai.snap h (.row id 0 ps.length ps.length)=some (.slice (ps.map prP)):=row_snap ho (by simp)
 have hs:allM (Vai.snap h) [.row id 0 ps.length ps.length,.t y]=some [.slice (ps.map prP),y]:=by
  simp only [allM,h1,snap_t]
 have hl:(((kindsL ps ds ps.length).map iv).map D.t).length=ps.length:=by simp [kindsL_len]
 have h3:(((kindsL ps ds ps.length).map iv).map D.t).take ps.length=((kindsL ps ds ps.length).map iv).map D.t:=List.take_of_length_le (by omega)
 have hm':(cx.at c).md 53 = .tree:=hm;have hcb:callable (cx.at c).P 53=true:=cb53;simp only [callD,hcb,if_true,hm',callTree,hs,List.map_cons,List.map_nil,q,treeOut,ho',hl,true_and,Nat.le_refl,h3,allM_snap_t,flats_iv,Bool.true_or]
section
variable {o k:Nat}{h:H}{ps:List PT}(ho:h.objs o=some (.row 57 9 ((ps.map prP).map .t)))
include ho
theorem pe_f0:fieldAddrD Tryz.prog h 57 (.ptr o k 0 ps.length) 0=some (.ptr o k 0 ps.length):=by simp [-List.map_map,ho]
theorem pe_f6:fieldAddrD Tryz.prog h 57 (.ptr o k 0 ps.length) 6=some (.ptr o k 8 ps.length):=by simp [-List.map_map,ho]
variable {x:PT}(hx:((ps.map prP).map D.t)[k]?=some (.t (prP x)))
include hx
theorem pe_l0:loadD Tryz.prog h 3 (.ptr o k 0 ps.length)=some (.t (.int .i64 x.k)):=by simp [-List.map_map,-List.getElem?_map,ho,hx]
theorem pe_l6:loadD Tryz.prog h 3 (.ptr o k 8 ps.length)=some (.t (.int .i64 x.at_)):=by simp [-List.map_map,-List.getElem?_map,ho,hx]
end
theorem l29 {o P:Nat}{h:H}{ps:List PT}{ds:List DV}{z:T}(ho:h.objs o=some (.row 57 9 ((ps.map prP).map .t)))(hn:ps.length≤256)(hwf:WF ps)
   (g0:nilCheckD h (.ptr P 0 0 1)=some (.ptr P 0 0 1)) (g4:fieldAddrD Tryz.prog h 101 (.ptr P 0 0 1) 4=some (.ptr P 0 4 1)) (gl:loadD Tryz.prog h 22 (.ptr P 0 4 1)=some (.row o 0 ps.length ps.length))
   (hz:h.objs 0=some (.row 64 2 [.t (.agg [iv 0,iv 0])])) {st:St} {r:CR} (hLp:loopω (LB cx prim 29 Tryz.f29 0) st=r)
   (en:st.n=98) (eh:st.h=h) (e5:st.env 5 = .ptr 0 0 0 1) (e8:st.env 8 = .ptr P 0 0 1) (e9:st.env 9 = .t (.slice ((kindsL ps ds ps.length).map iv))) (e10:st.env 10 = .t (.int .i64 0)) :
   ∃ x' st',r=some (x',st')∧st'.n=98∧st'.env 5 = .ptr 0 0 0 1∧((x' = .exit 0∧goodK ps ds ps.length=true∧st'.env 8 = .ptr P 0 0 1∧st'.h=h) ∨
     (x' = .ret∧∃ p w,BadAt ps ds p w∧st'.env 4 = .t .nilSlice∧st'.h=h.set 0 (.row 64 2 [.t (.agg [iv p,iv w])]))):=by
 refine loop_uses hLp ps.length
   (fun k s'=>s'.n=98∧s'.h=h∧s'.env 5 = .ptr 0 0 0 1∧s'.env 8 = .ptr P 0 0 1∧s'.env 9 = .t (.slice ((kindsL ps ds ps.length).map iv))∧s'.env 10 = .t (.int .i64 k)∧goodK ps ds k=true)
   (fun x' st'=>st'.n=98∧st'.env 5 = .ptr 0 0 0 1∧((x' = .exit 0∧goodK ps ds ps.length=true∧st'.env 8 = .ptr P 0 0 1∧st'.h=h) ∨
     (x' = .ret∧∃ p w,BadAt ps ds p w∧st'.env 4 = .t .nilSlice∧st'.h=h.set 0 (.row 64 2 [.t (.agg [iv p,iv w])]))))
   ⟨en,eh,e5,e8,e9,e10,rfl⟩ ?_
 clear hLp en eh e5 e8 e9 e10 st;rintro k ⟨nn,env,h2⟩ hk ⟨rfl,rfl,e5,e8,e9,e10,hg⟩;dsimp only at e5 e8 e9 e10 ho g0 g4 gl hz;rw [LB_run nd29 rfl];have hkl:((kindsL ps ds ps.length).map iv).length=ps.length:=by simp [kindsL_len]
 by_cases hk':k<ps.length
 · obtain ⟨x,hx⟩:∃ x,ps[k]?=some x:=⟨ps[k],List.getElem?_eq_getElem hk'⟩
   have hgx:((ps.map prP).map D.t)[k]?=some (.t (prP x)):=by rw [List.getElem?_map,List.getElem?_map,hx]; rfl
   have hlx:((ps.map prP).map D.t).length=ps.length:=by simp
   have y1:=pe_f0 (k:=k) ho;have y2:=pe_f6 (k:=k) ho;have y3:=pe_l0 ho hgx;have y4:=pe_l6 ho hgx;have hkx:=getK_kindsL (ds:=ds) (n:=ps.length) hk' hx;have hks:((kindsL ps ds ps.length).map iv)[k]?=some (iv (getK (kindsL ps ds ps.length) k)):=by
     rw [List.getElem?_map,show k=((k:Int)).toNat from rfl,getK_some (by omega) (by rw [kindsL_len]; omega)]; rfl
   have hga:=goodK_at (ds:=ds) hx hg;have hsb:sidesB x k=true:=by
     unfold sidesB;rw [List.all_eq_true];intro j hj;simpa using hwf k x hx j hj
   rw [hsb,Bool.true_and] at hga;rw [←hkx] at hga;generalize getK (kindsL ps ds ps.length) k=v at *;generalize hKK:(kindsL ps ds ps.length).map iv=KK at *;by_cases hv:v=0
   · have hba:BadAt ps ds x.at_ (if x.k=2 then 133 else 132):=⟨k,x,hx,hg,by rw [hga,hv]; rfl,rfl,rfl⟩
     subst hv;by_cases h2:x.k=2
     · rw [if_pos h2] at hba
       simp -implicitDefEqProofs (disch:=omega) [-nilCheckD,-fieldAddrD,-load_ptr,-List.getElem?_map,-List.map_map,-getElem?_pos,e5,e8,e9,e10,hkl,hk',hks,g0,g4,gl,ho,hlx,y1,y2,y3,y4,hz,eqI,h2,D.parts];exact ⟨_,_,hba,rfl⟩
     · rw [if_neg h2] at hba
       simp -implicitDefEqProofs (disch:=omega) [-nilCheckD,-fieldAddrD,-load_ptr,-List.getElem?_map,-List.map_map,-getElem?_pos,e5,e8,e9,e10,hkl,hk',hks,g0,g4,gl,ho,hlx,y1,y2,y3,y4,hz,eqI,h2,D.parts];exact ⟨_,_,hba,rfl⟩
   · have hg2:goodK ps ds (k+1)=true:=by rw [hga]; simp [hv]
     simp -implicitDefEqProofs (disch:=omega) [-nilCheckD,-fieldAddrD,-load_ptr,-List.getElem?_map,-List.map_map,-getElem?_pos,e5,e8,e9,e10,hkl,hk',hks,g0,g4,gl,ho,hlx,y1,y2,y3,y4,hz,eqI,hv,hg2,D.parts]
 · obtain rfl:k=ps.length:=by omega
   simp -implicitDefEqProofs (disch:=omega) [-nilCheckD,-fieldAddrD,-load_ptr,-List.map_map,e5,e8,e9,e10,hkl,hg]
end Go.Proofs.YtaldobgfbkllfaaGreatDoor
