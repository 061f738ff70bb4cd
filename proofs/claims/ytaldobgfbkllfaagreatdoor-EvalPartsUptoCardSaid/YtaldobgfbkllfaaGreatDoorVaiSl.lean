import Derived.Test.YtaldobgfbkllfaaGreatDoorVaiSk
import Derived.Test.YtaldobgfbkllfaaGreatDoorVaiSj
set_option linter.unusedSimpArgs false
set_option linter.unusedVariables false
set_option linter.unusedSectionVars false
namespace Go.Proofs.YtaldobgfbkllfaaGreatDoor
open Vai
set_option maxHeartbeats 0
theorem sidesB_allIn (x:PT)(i:Nat):sidesB x i=allIn (usesS x) i:=rfl
theorem allIn_mem {js:List Int}{i:Nat}(h:allIn js i=true){j:Int}(hj:j∈js):0≤j∧j<i:=by
 unfold allIn at h;rw [List.all_eq_true] at h;simpa using h j hj
theorem mayV_kind {k n:Int}{s:ByteArray}(h:mayV k n s=true):1≤k∧k≤3:=by
 unfold mayV at h;split at h
 · omega
 · split at h
   · omega
   · split at h
     · omega
     · cases h
theorem kdS_range {x:PT}{ds:List DV}{K:Int→Int}(hK:∀ j∈usesS x,1≤K j∧K j≤3):0≤kdS x ds K∧kdS x ds K≤3:=by
 obtain ⟨ua,ub,uc⟩:=uses_k (x:=x);have ha:3≤x.k→x.k≤19→1≤K x.a∧K x.a≤3:=fun h h'=>hK _ (ua h h')
 have hb:6≤x.k→x.k≤19→1≤K x.b∧K x.b≤3:=fun h h'=>hK _ (ub h h')
 unfold kdS kind3;by_cases e1:x.k=1
 · rw [if_pos e1]
   split
   · rename_i h; have:=mayV_kind h; omega
   · omega
 rw [if_neg e1];generalize K x.a=A at *;generalize K x.b=B at *;generalize K x.c=C at *;generalize declK ds x.nm=D;clear hK ua ub uc
 iterate 10
   split
   · split<;>omega
 omega
theorem kindsL_get {ps:List PT}{ds:List DV}{i j:Nat}(h:j<i):(kindsL ps ds i)[j]? = (kindsL ps ds (j+1))[j]?:=by
 induction i with
 | zero=>omega
 | succ i ih =>
  by_cases e:j=i
  · subst e; rfl
  · rw [←ih (by omega)]
    show (kindsL ps ds i++_)[j]? = _;rw [List.getElem?_append_left (by rw [kindsL_len]; omega)]
theorem good_range {ps:List PT}{ds:List DV}:∀ {i:Nat},goodK ps ds i=true→∀ j:Int,0≤j→j<i→1≤getK (kindsL ps ds i) j∧getK (kindsL ps ds i) j≤3
 | 0,_,j,h0,h1=>by omega
 | i+1,hg,j,h0,h1=>by
  simp only [goodK,Bool.and_eq_true] at hg;obtain ⟨hg,hx⟩:=hg;split at hx
  case h_2=>cases hx
  rename_i x hxi;simp only [Bool.and_eq_true,Bool.not_eq_true',decide_eq_false_iff_not] at hx;have ih:=good_range hg;by_cases e:j=i
  · subst e
    unfold getK;have:(kindsL ps ds (i+1))[(i:Int).toNat]?=some (kdS x ds (getK (kindsL ps ds i))):=by
     show (kindsL ps ds i++_)[(i:Int).toNat]? = _;rw [List.getElem?_append_right (by rw [kindsL_len]; omega),kindsL_len]
     simp [hxi]
    rw [this];simp only [Option.getD_some];have hr:=kdS_range (x:=x) (ds:=ds) (K:=getK (kindsL ps ds i)) fun j hj=>by
     have:=allIn_mem hx.1 hj;exact ih j this.1 this.2
    omega
  · have h2:=ih j h0 (by omega)
    unfold getK at h2 ⊢;show 1≤((kindsL ps ds i++_)[j.toNat]?).getD 0∧((kindsL ps ds i++_)[j.toNat]?).getD 0≤3;rw [List.getElem?_append_left (by rw [kindsL_len]; omega)]
    exact h2
end Go.Proofs.YtaldobgfbkllfaaGreatDoor

namespace Go.Proofs.YtaldobgfbkllfaaGreatDoor
open Vai
theorem goodK_at {ps:List PT}{ds:List DV}{k:Nat}{x:PT}(hx:ps[k]?=some x)(hg:goodK ps ds k=true):goodK ps ds (k+1)=(sidesB x k && !decide (kdS x ds (getK (kindsL ps ds k))=0)):=by
 simp only [goodK,hg,Bool.true_and,hx]
theorem kindsL_at {ps:List PT}{ds:List DV}{k:Nat}{x:PT}(hx:ps[k]?=some x):kindsL ps ds (k+1)=kindsL ps ds k ++ [kdS x ds (getK (kindsL ps ds k))]:=by
 simp only [kindsL,hx]
theorem usedL_at {ps:List PT}{k:Nat}{x:PT}(hx:ps[k]?=some x):usedL ps (k+1)=(usesS x).foldl bump (usedL ps k):=by
 simp only [usedL,hx]
end Go.Proofs.YtaldobgfbkllfaaGreatDoor
namespace Go.Proofs.YtaldobgfbkllfaaGreatDoor.P0
open Vai
variable [Gl]
set_option maxHeartbeats 0
set_option maxRecDepth 100000
theorem l26_0 {a b c:Nat}{ps:List PT}{ds:List DV}{y:T}(hy:Slice y (ds.map decT))(hl:ds.length≤2000000)(hps:∀ x∈ps,x.s.size≤1000000000)(hn:ps.length≤256){st:St}{r:CR}(hLp:loopω (LB cx prim0 26 Tryz.f26 0) st=r)
   (en:st.n=87) (e0:st.env 0 = .t (.slice (ps.map prP))) (e1:st.env 1 = .t y) (e5:st.env 5 = .ptr c 0 0 1) (e6:st.env 6 = .row b 0 ps.length ps.length) (e27:st.env 27 = .t (.slice (ps.map prP))) (e28:st.env 28 = .t (.int .i64 ps.length)) (e29:st.env 29 = .t (.int .i64 0))
   (hK:KH a b c (padK [] ps.length) (usedL ps 0) st.h) :
   ∃ x' st',r=some (x',st')∧st'.n=87∧((x' = .exit 0∧goodK ps ds ps.length=true∧st'.env 0 = .t (.slice (ps.map prP))∧st'.env 5 = .ptr c 0 0 1∧st'.env 6 = .row b 0 ps.length ps.length∧KH a b c (kindsL ps ds ps.length) (usedL ps ps.length) st'.h)
     ∨ (x' = .ret∧goodK ps ds ps.length=false∧st'.env 4 = .t (iv 0))):=by
 refine loop_uses hLp ps.length
   (fun k s=>s.n=87∧s.env 0 = .t (.slice (ps.map prP))∧s.env 1 = .t y∧s.env 5 = .ptr c 0 0 1∧s.env 6 = .row b 0 ps.length ps.length∧s.env 27 = .t (.slice (ps.map prP))∧s.env 28 = .t (.int .i64 ps.length)∧s.env 29 = .t (.int .i64 k) ∧
     goodK ps ds k=true∧KH a b c (padK (kindsL ps ds k) ps.length) (usedL ps k) s.h)
   (fun x' st'=>st'.n=87∧((x' = .exit 0∧goodK ps ds ps.length=true∧st'.env 0 = .t (.slice (ps.map prP))∧st'.env 5 = .ptr c 0 0 1∧st'.env 6 = .row b 0 ps.length ps.length∧KH a b c (kindsL ps ds ps.length) (usedL ps ps.length) st'.h)
     ∨ (x' = .ret∧goodK ps ds ps.length=false∧st'.env 4 = .t (iv 0))))
   ⟨en,e0,e1,e5,e6,e27,e28,e29,rfl,hK⟩ ?_
 clear hLp en e0 e1 e5 e6 e27 e28 e29 hK st;rintro k ⟨nn,env,h2⟩ hk ⟨rfl,e0,e1,e5,e6,e27,e28,e29,hg,hK⟩;simp only at e0 e1 e5 e6 e27 e28 e29 hK;rw [LB_run nd26 rfl];by_cases hk':k<ps.length
 · obtain ⟨x,hx⟩:∃ x,ps[k]?=some x:=⟨ps[k],by simp [hk']⟩
   have hgx:(ps.map prP)[k]?=some (prP x):=by rw [List.getElem?_map,hx]; rfl
   have c1:(k:Int)<ps.length:=by omega
   have hxm:=hps x (List.mem_of_getElem? hx);obtain ⟨y',hy',q47⟩:=c47 (c:=26) x (h2.push (.row 57 9 [.t (prP x)])) rfl;have hly:=hy'.len (P:=Tryz.prog) (t:=60) tk60 (h2.push (.row 57 9 [.t (prP x)]));rw [List.length_map] at hly;have hK1:=hK.keeps (Keeps.push h2 (.row 57 9 [.t (prP x)]));simp -implicitDefEqProofs (disch:=omega) [-List.getElem?_map,e0,e1,e5,e6,e27,e28,e29,hgx,q47,hly,push_set];generalize hLp:loopω (LB cx prim0 26 Tryz.f26 2) _=R;obtain ⟨x',⟨nn,env2,h3⟩,rfl,rfl,hq⟩:=l26_2 (a:=a) (b:=b) (c:=c) (p:=h2.next) (ks:=padK (kindsL ps ds k) ps.length) (us:=usedL ps k) (x:=x) (i:=k) (n:=ps.length) (y:=y') (js:=usesS x) hy' (uses_len x) (usedL_len ps k) hk' (fun t v hv=>by have:=usedL_small ps k t v hv; omega) (Nat.ne_of_gt hK.lb) hLp rfl
     (by simp [e6]) (by simp) (by simp) (by simp) (by simp) hK1 (by simp) (d0:=.t (.slice (ps.map prP))) (d1:=.t y) (d5:=.ptr c 0 0 1) (d8:=.ptr h2.next 0 0 1) (d27:=.t (.slice (ps.map prP))) (d28:=.t (.int .i64 ps.length)) (d29:=.t (.int .i64 k)) (by simp [e0]) (by simp [e1]) (by simp [e5]) (by simp) (by simp [e27]) (by simp [e28]) (by simp [e29])
   rcases hq with ⟨rfl,hall,f6,f7,f0,f1,f5,f8,f27,f28,f29,hK3,hp3,hn3⟩|⟨rfl,hall,f4⟩
   · simp only at f6 f7 f0 f1 f5 f8 f27 f28 f29 hK3 hp3 hn3
     clear hLp q47 hly e0 e1 e5 e6 e27 e28 e29 hK1;have hkl:(kindsL ps ds k).length=k:=kindsL_len ps ds k;have hpl:(padK (kindsL ps ds k) ps.length).length=ps.length:=padK_len (by omega)
     have hKr:∀ j∈usesS x,1≤getK (kindsL ps ds k) j∧getK (kindsL ps ds k) j≤3:=fun j hj=>by
       have:=allIn_mem hall hj;exact good_range hg j this.1 this.2
     have kp4:Keeps h3 (H41 h3 x 48 c):=(Keeps.push _ _).trans (Keeps.push _ _);have hK4:=hK3.keeps kp4;have q41:=keepT (cc:=cx.at 26) cb41 rfl (s41 (x:=x) (fo:=48) (ko:=c) (K:=getK (kindsL ps ds k)) hy hl hK3.hm hxm hKr (fun j hj q hq=>by
       have h1:=allIn_mem hall hj;have:=k48 hK4 (j:=j) h1.1 (by rw [hpl]; omega) q (by rcases hq with rfl|rfl|rfl<;>rfl)
       rw [padK_get h1.1 (by omega)] at this
       exact this))
     have hga:=goodK_at hx hg;rw [sidesB_allIn,hall,Bool.true_and] at hga;have hka:=kindsL_at (ds:=ds) hx;have hua:=usedL_at hx;generalize hV:kdS x ds (getK (kindsL ps ds k))=v at q41 hga hka;have o3c:=hK3.oc;rw [hpl] at o3c;have o4c:=hK4.oc;rw [hpl] at o4c;have o4a:=hK4.oa;have hst:=store_iv hK4.oa (i:=k) (by rw [hpl]; exact hk') v
     have hK5:=hK4.setA (ks':=(padK (kindsL ps ds k) ps.length).set k v) (by simp)
     have hset:(padK (kindsL ps ds k) ps.length).set k v=padK (kindsL ps ds (k+1)) ps.length:=by
       rw [hka,←padK_set (by omega),hkl]
     rw [hset] at hst hK5;rw [hpl] at hst;generalize H41 h3 x 48 c=h4 at *;generalize h4.set a _=h5 at hst hK5;have hpl5:(padK (kindsL ps ds (k+1)) ps.length).length=ps.length:=padK_len (by rw [kindsL_len]; omega)
     have o5c:=hK5.oc;rw [hpl5] at o5c;have o5a:=hK5.oa;have g5:(((padK (kindsL ps ds (k+1)) ps.length).map iv).map D.t)[k]?=some (.t (iv v)):=by
       rw [←hset,List.getElem?_map,List.getElem?_map,List.getElem?_set_self (by omega)]; rfl
     have l4:(((padK (kindsL ps ds k) ps.length).map iv).map D.t).length=ps.length:=by simp [hpl]
     have l5:(((padK (kindsL ps ds (k+1)) ps.length).map iv).map D.t).length=ps.length:=by simp [hpl5]
     generalize ((padK (kindsL ps ds k) ps.length).map iv).map D.t=E4 at o4a l4;generalize hE5:((padK (kindsL ps ds (k+1)) ps.length).map iv).map D.t=E5 at o5a l5 g5;by_cases hv0:v=0
     · have e0:eqI v 0=true:=eqI_true hv0
       simp -implicitDefEqProofs (disch:=omega) [-List.getElem?_map,-List.map_map,-storeD,-getElem?_pos,f6,f7,f0,f1,f5,f8,f27,f28,f29,o3c,hp3,q41,o4c,o4a,l4,hst,o5c,o5a,l5,g5,hk',e0,md,Wp_some];refine goodK_mono (i:=k+1) (by omega) ?_
       rw [hga]; simp [hv0]
     · have e0:eqI v 0=false:=eqI_false hv0
       simp -implicitDefEqProofs (disch:=omega) [-List.getElem?_map,-List.map_map,-storeD,-getElem?_pos,f6,f7,f0,f1,f5,f8,f27,f28,f29,o3c,hp3,q41,o4c,o4a,l4,hst,o5c,o5a,l5,g5,hk',e0,md,Wp_some];exact ⟨by rw [hga]; simp [hv0],by rw [hua]; exact hK5⟩
   · simp only at f4
     simp -implicitDefEqProofs (disch:=omega) [f4,Wp_some];refine goodK_mono (i:=k+1) (by omega) ?_
     rw [goodK_at hx hg,sidesB_allIn,hall,Bool.false_and]
 · obtain rfl:k=ps.length:=by omega
   simp -implicitDefEqProofs (disch:=omega) [e0,e1,e5,e6,e27,e28,e29,Wp_some];have e:padK (kindsL ps ds ps.length) ps.length=kindsL ps ds ps.length:=by simp [padK,kindsL_len]
   rw [e] at hK;exact ⟨hg,hK⟩
end Go.Proofs.YtaldobgfbkllfaaGreatDoor.P0

namespace Go.Proofs.YtaldobgfbkllfaaGreatDoor
open Vai
end Go.Proofs.YtaldobgfbkllfaaGreatDoor
namespace Go.Proofs.YtaldobgfbkllfaaGreatDoor.P0
open Vai
variable [Gl]
set_option maxHeartbeats 0
set_option maxRecDepth 100000
theorem l26_4 {a b c:Nat}{ks us:List Int}{n:Nat}(hn:us.length=n)(h0:0<n)(hn256:n≤1000000){st:St}{r:CR}(hLp:loopω (LB cx prim0 26 Tryz.f26 4) st=r)
   (en:st.n=87) (e72:st.env 72 = .row b 0 (n-1) n) (e73:st.env 73 = .t (.int .i64 ((n:Int)-1))) (e74:st.env 74 = .t (.int .i64 0)) (hK:KH a b c ks us st.h) {d0 d5:D} (e0:st.env 0=d0) (e5:st.env 5=d5) :
   ∃ x' st',r=some (x',st')∧st'.n=87∧((x' = .exit 4∧onesB (us.take (n-1))=true∧st'.env 0=d0∧st'.env 5=d5∧KH a b c ks us st'.h)∨(x' = .ret∧onesB (us.take (n-1))=false∧st'.env 4 = .t (iv 0))):=by
 refine loop_uses hLp (n-1)
   (fun m s=>s.n=87∧s.env 72 = .row b 0 (n-1) n∧s.env 73 = .t (.int .i64 ((n:Int)-1))∧s.env 74 = .t (.int .i64 m)∧s.env 0=d0∧s.env 5=d5∧onesB (us.take m)=true∧KH a b c ks us s.h)
   (fun x' st'=>st'.n=87∧((x' = .exit 4∧onesB (us.take (n-1))=true∧st'.env 0=d0∧st'.env 5=d5∧KH a b c ks us st'.h)∨(x' = .ret∧onesB (us.take (n-1))=false∧st'.env 4 = .t (iv 0))))
   ⟨en,e72,e73,e74,e0,e5,rfl,hK⟩ ?_
 clear hLp en e72 e73 e74 e0 e5 hK st;rintro m ⟨nn,env,h2⟩ hm ⟨rfl,e72,e73,e74,e0,e5,hones,hK⟩;simp only at e72 e73 e74 e0 e5 hK;rw [LB_run nd26 rfl];have oB:=hK.ob;by_cases hm':m<n-1
 · obtain ⟨v,hv⟩:∃ v,us[m]?=some v:=⟨us[m]'(by omega),List.getElem?_eq_getElem (by omega)⟩
   have g:((us.map iv).map D.t)[m]?=some (.t (iv v)):=by rw [List.getElem?_map,List.getElem?_map,hv]; rfl
   have l:((us.map iv).map D.t).length=n:=by simp [hn]
   have c1:(m:Int)<(n:Int)-1:=by omega
   have hle:n-1≤n:=by omega
   have htk:us.take (m+1)=us.take m ++ [v]:=by rw [List.take_add_one,hv]; rfl
   generalize (us.map iv).map D.t=E at oB g l;by_cases hv1:v=1
   · simp -implicitDefEqProofs (disch:=omega) [-List.getElem?_map,-List.map_map,-getElem?_pos,e72,e73,e74,e0,e5,oB,g,l,hm',hle,hv1,Wp_some]
     refine ⟨?_,hK⟩;unfold onesB at hones ⊢;rw [htk,List.all_append,hones,hv1]; rfl
   · have e1:eqI v 1=false:=eqI_false hv1
     simp -implicitDefEqProofs (disch:=omega) [-List.getElem?_map,-List.map_map,-getElem?_pos,e72,e73,e74,e0,e5,oB,g,l,hm',hle,e1,Wp_some];unfold onesB;rw [List.all_eq_false];refine ⟨v,?_,by simpa using hv1⟩
     rw [List.mem_iff_getElem?];exact ⟨m,by rw [List.getElem?_take_of_lt hm']; exact hv⟩
 · obtain rfl:m=n-1:=by omega
   simp -implicitDefEqProofs (disch:=omega) [e72,e73,e74,e0,e5,Wp_some];exact ⟨hones,hK⟩
end Go.Proofs.YtaldobgfbkllfaaGreatDoor.P0

namespace Go.Proofs.YtaldobgfbkllfaaGreatDoor.P0
open Vai
variable [Gl]
set_option maxHeartbeats 0
set_option maxRecDepth 100000
theorem rest_run {x y:Code}(hb:A26.rest = .seq x y)(st:St):code (cx.at 26) (call cx prim0) loopω A26.rest st=codeB (cx.at 26) (call cx prim0) loopω (LB cx prim0 26 Tryz.f26) (.seq x y) st:=by
 have hn:(loopIds A26.rest).Nodup:=by decide +kernel
 rw [part_LB (fn:=Tryz.f26) nd26 hn (fun id b hb=>?_),hb]
 obtain ⟨i,hbo⟩:=a26OK.body;have hbo':bodyOf Tryz.f26 = .seq A26.pre1 (.seq A26.pre2 (.seq (.region i A26.ops true) A26.rest)):=by
  show (Tryz.f26.body).getD .skip=_;rw [show Tryz.f26.body=_ from hbo]; rfl
 have n1:findLoop id A26.pre1=none:=findLoop_none _ _ (by rw [show loopIds A26.pre1=[] by decide +kernel]; simp)
 have n2:findLoop id A26.pre2=none:=findLoop_none _ _ (by rw [show loopIds A26.pre2=[] by decide +kernel]; simp)
 rw [hbo'];simp only [findLoop,n1,n2,hb]
theorem rest26 {a b c:Nat}{ps:List PT}{ds:List DV}{y:T}(hy:Slice y (ds.map decT))(hl:ds.length≤2000000)(hps:∀ x∈ps,x.s.size≤1000000000)(h0:0<ps.length)(hn:ps.length≤256){env:Nat→D}{h:H}
   (e0:env 0 = .t (.slice (ps.map prP))) (e1:env 1 = .t y) (e5:env 5 = .ptr c 0 0 1) (e6:env 6 = .row b 0 ps.length ps.length) (hK:KH a b c (padK [] ps.length) (usedL ps 0) h) :
   flatEnd (endC Tryz.prog Tryz.f26.results.toList (code (cx.at 26) (call cx prim0) loopω A26.rest ⟨87,env,h⟩))=some (iv (kindS ps ds)):=by
 have hk0:¬ (ps.length=0∨256<ps.length):=by omega
 rw [rest_run rfl];unfold kindS;rw [if_neg hk0];simp -implicitDefEqProofs (disch:=omega) [e0,e1,e5,e6];generalize hLp:loopω (LB cx prim0 26 Tryz.f26 0) _=R;obtain ⟨x',⟨nn,env2,h2⟩,rfl,rfl,hq⟩:=l26_0 hy hl hps hn hLp rfl (by simp [e0]) (by simp [e1]) (by simp [e5]) (by simp [e6]) (by simp) (by simp) (by simp) hK
 clear hLp;rcases hq with ⟨rfl,hg,f0,f5,f6,hK2⟩|⟨rfl,hg,f4⟩
 · simp only at f0 f5 f6 hK2
   rw [if_neg (by rw [hg]; decide)]
   have oB:=hK2.ob;have lB:(((usedL ps ps.length).map iv).map D.t).length=ps.length:=by simp [usedL_len]
   generalize hE:((usedL ps ps.length).map iv).map D.t=E at oB lB;have hsub:(((ps.length:Int)-1).toNat)=ps.length-1:=by omega
   have hc1:1≤(ps.length:Int):=by omega
   have hc2:(ps.length:Int)-1≤ps.length:=by omega
   have hcast:((ps.length-1:Nat):Int)=(ps.length:Int)-1:=by omega
   simp -implicitDefEqProofs (disch:=omega) [f0,f5,f6,oB,lB,hsub,sliceD,hc1,hc2,hcast];generalize hLp:loopω (LB cx prim0 26 Tryz.f26 4) _=R;obtain ⟨x',⟨nn,env3,h3⟩,rfl,rfl,hq⟩:=l26_4 (us:=usedL ps ps.length) (n:=ps.length) (usedL_len ps _) h0 (by omega) hLp rfl (by simp) (by simp) (by simp) hK2 (d0:=.t (.slice (ps.map prP))) (d5:=.ptr c 0 0 1) (by simp [f0]) (by simp [f5])
   clear hLp;rcases hq with ⟨rfl,ho,g0,g5,hK3⟩|⟨rfl,ho,g4⟩
   · simp only at g0 g5 hK3
     rw [if_neg (by rw [ho]; decide)]
     have oA:=hK3.oa;have oC:=hK3.oc;rw [kindsL_len] at oC;have lA:(((kindsL ps ds ps.length).map iv).map D.t).length=ps.length:=by simp [kindsL_len]
     have gA:(((kindsL ps ds ps.length).map iv).map D.t)[ps.length-1]?=some (.t (iv (getK (kindsL ps ds ps.length) ((ps.length:Int)-1)))):=by
      have:=getK_some (l:=kindsL ps ds ps.length) (j:=(ps.length:Int)-1) (by omega) (by rw [kindsL_len]; omega)
      rw [hsub] at this;rw [List.getElem?_map,List.getElem?_map,this]; rfl
     generalize ((kindsL ps ds ps.length).map iv).map D.t=E2 at oA lA gA;have hlt1:ps.length-1<ps.length:=by omega
     simp -implicitDefEqProofs (disch:=omega) [-getElem?_pos,hlt1,g0,g5,oA,oC,lA,gA,hsub,h0,flatEnd,T.flat]
   · simp only at g4
     rw [if_pos ho];simp -implicitDefEqProofs (disch:=omega) [g4,flatEnd,T.flat]
 · simp only at f4
   rw [if_pos hg];simp -implicitDefEqProofs (disch:=omega) [f4,flatEnd,T.flat]
end Go.Proofs.YtaldobgfbkllfaaGreatDoor.P0

namespace Go.Proofs.YtaldobgfbkllfaaGreatDoor
open Vai
open P0
variable [Gl]
set_option maxHeartbeats 0
set_option maxRecDepth 100000
theorem pre_seq {st:St}:code (cx.at 26) (call cx prim0) loopω (.seq A26.pre1 A26.pre2) st=thenC (code (cx.at 26) (call cx prim0) loopω A26.pre1 st) (code (cx.at 26) (call cx prim0) loopω A26.pre2):=rfl
theorem makeZ {n:Nat}(h:H)(hn:n≤256):makeSliceD Tryz.prog h 60 (.t (.int .i64 n)) (.t (.int .i64 n))=some (.row h.next 0 n n,h.push (.row 3 1 (((List.replicate n (0:Int)).map iv).map .t))):=by
 have h1:((n:Int).toNat)=n:=by omega
 have h2:(n:Int)<140737488355328:=by omega
 have h3:8*n≤140737488355328:=by omega
 simp -implicitDefEqProofs (disch:=omega) [makeSliceD,h1,h2,h3]
theorem s26z {ps:List PT}{y l:T}(hlp:Slice l (ps.map prP))(h:ps.length=0∨256<ps.length)(hl:ps.length≤2000000):call cx prim 26 [.t l,.t y] .empty=some (.t (iv 0),.empty):=by
 rw [call_prim (g:=altA cx (call cx prim0) loopω A26 ords26) rfl];unfold altA;rw [if_pos ⟨rfl,(by decide:2≤87)⟩]
 have hlx:=fun hh=>hlp.len (P:=Tryz.prog) (t:=22) tk22 hh
 rw [List.length_map] at hlx;have:code (cx.at A26.k) (call cx prim0) loopω (.seq A26.pre1 A26.pre2) ⟨A26.fn.ntmps,enterE [.t l,.t y],.empty⟩=code (cx.at 26) (call cx prim0) loopω (.seq A26.pre1 A26.pre2) ⟨87,enterE [.t l,.t y],.empty⟩:=rfl;rw [this,pre_seq];simp only [A26,seqL,seqR,bodyOf,Tryz.f26,Option.getD_some];rcases h with h|h
 · have e0:(ps.length:Int)=0:=by omega
   simp -implicitDefEqProofs (disch:=omega) [hlx,e0,altRun,flatEnd,T.flat]
 · by_cases e0:(ps.length:Int)=0
   · omega
   · have h2:(256:Int)<ps.length:=by omega
     simp -implicitDefEqProofs (disch:=omega) [hlx,e0,h2,altRun,flatEnd,T.flat]
theorem kh0 {a b c:Nat}{n:Nat}{h:H}(oa:h.objs a=some (.row 3 1 (((List.replicate n (0:Int)).map iv).map .t)))(ob:h.objs b=some (.row 3 1 (((List.replicate n (0:Int)).map iv).map .t)))(oc:h.objs c=some (.row 60 1 [.row a 0 n n]))
  (ab:a≠b) (ac:a≠c) (bc:b≠c) (la:a<h.next) (lb:b<h.next) (lc:c<h.next) (hm:h.marks=[]) (ps:List PT) (hn:ps.length=n):KH a b c (padK [] ps.length) (usedL ps 0) h where
 oa:=by simpa [padK,hn] using oa
 ob:=by simpa [usedL,hn] using ob
 oc:=by rw [padK_len (Nat.zero_le _),hn]; exact oc
 ab:=ab
 ac:=ac
 bc:=bc
 la:=la
 lb:=lb
 lc:=lc
 hm:=hm
theorem op26_0 {n:Nat}(hn:n≤256){env:Nat→D}{l:List T}{y:T}(hl:l.length=n)(q0:env 0 = .t (.slice l))(q1:env 1 = .t y):∃ st,opSeq (cx.at 26) (call cx prim0) A26.ops [0,1,3,4,2,5,6,7,8] ⟨87,env,.empty⟩=some st∧st.n=87∧st.env 0 = .t (.slice l)∧st.env 1 = .t y∧st.env 5 = .ptr 2 0 0 1∧st.env 6 = .row 1 0 n n ∧
  st.h.objs 0=some (.row 3 1 (((List.replicate n (0:Int)).map iv).map .t))∧st.h.objs 1=some (.row 3 1 (((List.replicate n (0:Int)).map iv).map .t))∧st.h.objs 2=some (.row 60 1 [.row 0 0 n n])∧st.h.next=3∧st.h.marks=[]:=by
 have mk:=fun h=>makeZ (n:=n) h hn
 subst hl;simp only [A26,seqL,seqR,bodyOf,regOps,Tryz.f26,Option.getD_some];simp -implicitDefEqProofs (disch:=omega) [-List.map_replicate,-List.map_map,opSeq,q0,q1,mk,D.parts]
theorem op26_1 {n:Nat}(hn:n≤256){env:Nat→D}{l:List T}{y:T}(hl:l.length=n)(q0:env 0 = .t (.slice l))(q1:env 1 = .t y):∃ st,opSeq (cx.at 26) (call cx prim0) A26.ops [0,1,3,4,2,6,5,7,8] ⟨87,env,.empty⟩=some st∧st.n=87∧st.env 0 = .t (.slice l)∧st.env 1 = .t y∧st.env 5 = .ptr 1 0 0 1∧st.env 6 = .row 2 0 n n ∧
  st.h.objs 0=some (.row 3 1 (((List.replicate n (0:Int)).map iv).map .t))∧st.h.objs 2=some (.row 3 1 (((List.replicate n (0:Int)).map iv).map .t))∧st.h.objs 1=some (.row 60 1 [.row 0 0 n n])∧st.h.next=3∧st.h.marks=[]:=by
 have mk:=fun h=>makeZ (n:=n) h hn
 subst hl;simp only [A26,seqL,seqR,bodyOf,regOps,Tryz.f26,Option.getD_some];simp -implicitDefEqProofs (disch:=omega) [-List.map_replicate,-List.map_map,opSeq,q0,q1,mk,D.parts]
theorem op26_2 {n:Nat}(hn:n≤256){env:Nat→D}{l:List T}{y:T}(hl:l.length=n)(q0:env 0 = .t (.slice l))(q1:env 1 = .t y):∃ st,opSeq (cx.at 26) (call cx prim0) A26.ops [0,1,3,4,2,6,7,5,8] ⟨87,env,.empty⟩=some st∧st.n=87∧st.env 0 = .t (.slice l)∧st.env 1 = .t y∧st.env 5 = .ptr 1 0 0 1∧st.env 6 = .row 2 0 n n ∧
  st.h.objs 0=some (.row 3 1 (((List.replicate n (0:Int)).map iv).map .t))∧st.h.objs 2=some (.row 3 1 (((List.replicate n (0:Int)).map iv).map .t))∧st.h.objs 1=some (.row 60 1 [.row 0 0 n n])∧st.h.next=3∧st.h.marks=[]:=by
 have mk:=fun h=>makeZ (n:=n) h hn
 subst hl;simp only [A26,seqL,seqR,bodyOf,regOps,Tryz.f26,Option.getD_some];simp -implicitDefEqProofs (disch:=omega) [-List.map_replicate,-List.map_map,opSeq,q0,q1,mk,D.parts]
theorem op26_3 {n:Nat}(hn:n≤256){env:Nat→D}{l:List T}{y:T}(hl:l.length=n)(q0:env 0 = .t (.slice l))(q1:env 1 = .t y):∃ st,opSeq (cx.at 26) (call cx prim0) A26.ops [0,1,3,4,5,2,6,7,8] ⟨87,env,.empty⟩=some st∧st.n=87∧st.env 0 = .t (.slice l)∧st.env 1 = .t y∧st.env 5 = .ptr 2 0 0 1∧st.env 6 = .row 0 0 n n ∧
  st.h.objs 1=some (.row 3 1 (((List.replicate n (0:Int)).map iv).map .t))∧st.h.objs 0=some (.row 3 1 (((List.replicate n (0:Int)).map iv).map .t))∧st.h.objs 2=some (.row 60 1 [.row 1 0 n n])∧st.h.next=3∧st.h.marks=[]:=by
 have mk:=fun h=>makeZ (n:=n) h hn
 subst hl;simp only [A26,seqL,seqR,bodyOf,regOps,Tryz.f26,Option.getD_some];simp -implicitDefEqProofs (disch:=omega) [-List.map_replicate,-List.map_map,opSeq,q0,q1,mk,D.parts]
theorem op26_4 {n:Nat}(hn:n≤256){env:Nat→D}{l:List T}{y:T}(hl:l.length=n)(q0:env 0 = .t (.slice l))(q1:env 1 = .t y):∃ st,opSeq (cx.at 26) (call cx prim0) A26.ops [0,1,3,4,5,6,2,7,8] ⟨87,env,.empty⟩=some st∧st.n=87∧st.env 0 = .t (.slice l)∧st.env 1 = .t y∧st.env 5 = .ptr 1 0 0 1∧st.env 6 = .row 0 0 n n ∧
  st.h.objs 2=some (.row 3 1 (((List.replicate n (0:Int)).map iv).map .t))∧st.h.objs 0=some (.row 3 1 (((List.replicate n (0:Int)).map iv).map .t))∧st.h.objs 1=some (.row 60 1 [.row 2 0 n n])∧st.h.next=3∧st.h.marks=[]:=by
 have mk:=fun h=>makeZ (n:=n) h hn
 subst hl;simp only [A26,seqL,seqR,bodyOf,regOps,Tryz.f26,Option.getD_some];simp -implicitDefEqProofs (disch:=omega) [-List.map_replicate,-List.map_map,opSeq,q0,q1,mk,D.parts]
theorem op26_5 {n:Nat}(hn:n≤256){env:Nat→D}{l:List T}{y:T}(hl:l.length=n)(q0:env 0 = .t (.slice l))(q1:env 1 = .t y):∃ st,opSeq (cx.at 26) (call cx prim0) A26.ops [0,1,3,4,6,2,5,7,8] ⟨87,env,.empty⟩=some st∧st.n=87∧st.env 0 = .t (.slice l)∧st.env 1 = .t y∧st.env 5 = .ptr 0 0 0 1∧st.env 6 = .row 2 0 n n ∧
  st.h.objs 1=some (.row 3 1 (((List.replicate n (0:Int)).map iv).map .t))∧st.h.objs 2=some (.row 3 1 (((List.replicate n (0:Int)).map iv).map .t))∧st.h.objs 0=some (.row 60 1 [.row 1 0 n n])∧st.h.next=3∧st.h.marks=[]:=by
 have mk:=fun h=>makeZ (n:=n) h hn
 subst hl;simp only [A26,seqL,seqR,bodyOf,regOps,Tryz.f26,Option.getD_some];simp -implicitDefEqProofs (disch:=omega) [-List.map_replicate,-List.map_map,opSeq,q0,q1,mk,D.parts]
theorem op26_6 {n:Nat}(hn:n≤256){env:Nat→D}{l:List T}{y:T}(hl:l.length=n)(q0:env 0 = .t (.slice l))(q1:env 1 = .t y):∃ st,opSeq (cx.at 26) (call cx prim0) A26.ops [0,1,3,4,6,2,7,5,8] ⟨87,env,.empty⟩=some st∧st.n=87∧st.env 0 = .t (.slice l)∧st.env 1 = .t y∧st.env 5 = .ptr 0 0 0 1∧st.env 6 = .row 2 0 n n ∧
  st.h.objs 1=some (.row 3 1 (((List.replicate n (0:Int)).map iv).map .t))∧st.h.objs 2=some (.row 3 1 (((List.replicate n (0:Int)).map iv).map .t))∧st.h.objs 0=some (.row 60 1 [.row 1 0 n n])∧st.h.next=3∧st.h.marks=[]:=by
 have mk:=fun h=>makeZ (n:=n) h hn
 subst hl;simp only [A26,seqL,seqR,bodyOf,regOps,Tryz.f26,Option.getD_some];simp -implicitDefEqProofs (disch:=omega) [-List.map_replicate,-List.map_map,opSeq,q0,q1,mk,D.parts]
theorem op26_7 {n:Nat}(hn:n≤256){env:Nat→D}{l:List T}{y:T}(hl:l.length=n)(q0:env 0 = .t (.slice l))(q1:env 1 = .t y):∃ st,opSeq (cx.at 26) (call cx prim0) A26.ops [0,1,3,4,6,5,2,7,8] ⟨87,env,.empty⟩=some st∧st.n=87∧st.env 0 = .t (.slice l)∧st.env 1 = .t y∧st.env 5 = .ptr 0 0 0 1∧st.env 6 = .row 1 0 n n ∧
  st.h.objs 2=some (.row 3 1 (((List.replicate n (0:Int)).map iv).map .t))∧st.h.objs 1=some (.row 3 1 (((List.replicate n (0:Int)).map iv).map .t))∧st.h.objs 0=some (.row 60 1 [.row 2 0 n n])∧st.h.next=3∧st.h.marks=[]:=by
 have mk:=fun h=>makeZ (n:=n) h hn
 subst hl;simp only [A26,seqL,seqR,bodyOf,regOps,Tryz.f26,Option.getD_some];simp -implicitDefEqProofs (disch:=omega) [-List.map_replicate,-List.map_map,opSeq,q0,q1,mk,D.parts]
theorem s26 {ps:List PT}{ds:List DV}{y:T}(hy:Slice y (ds.map decT))(hl:ds.length≤2000000)(hps:∀ x∈ps,x.s.size≤1000000000)(h0:0<ps.length)(hn:ps.length≤256):call cx prim 26 [.t (.slice (ps.map prP)),.t y] .empty=some (.t (iv (kindS ps ds)),.empty):=by
 rw [call_prim (g:=altA cx (call cx prim0) loopω A26 ords26) rfl];unfold altA;rw [if_pos ⟨rfl,(by decide:2≤87)⟩]
 have:code (cx.at A26.k) (call cx prim0) loopω (.seq A26.pre1 A26.pre2) ⟨A26.fn.ntmps,enterE [.t (.slice (ps.map prP)),.t y],.empty⟩=code (cx.at 26) (call cx prim0) loopω (.seq A26.pre1 A26.pre2) ⟨87,enterE [.t (.slice (ps.map prP)),.t y],.empty⟩:=rfl;rw [this,pre_seq];have e0:eqI (ps.length:Int) 0=false:=eqI_false (by omega)
 have h2:ltI 256 (ps.length:Int)=false:=ltI_false (by omega)
 have hpre:∃ st,thenC (code (cx.at 26) (call cx prim0) loopω A26.pre1 ⟨87,enterE [.t (.slice (ps.map prP)),.t y],.empty⟩) (code (cx.at 26) (call cx prim0) loopω A26.pre2)=some (.norm,st)∧st.n=87∧st.env 0 = .t (.slice (ps.map prP))∧st.env 1 = .t y∧st.h = .empty:=by
  simp only [A26,seqL,seqR,bodyOf,Tryz.f26,Option.getD_some];simp -implicitDefEqProofs (disch:=omega) [e0,h2]
 obtain ⟨⟨nn,env,h⟩,q,rfl,q0,q1,rfl⟩:=hpre;rw [q];simp only at q0 q1;have key:altAll (ords26.map (altOne cx (call cx prim0) loopω A26 ⟨87,env,.empty⟩))=some (iv (kindS ps ds)):=by
  refine altAll_of (by simp [ords26]) fun z hz=>?_
  obtain ⟨l,hlm,rfl⟩:=List.mem_map.1 hz;simp only [ords26,List.mem_cons,List.not_mem_nil,or_false] at hlm;have fin:∀ {a b c:Nat} (st:St),st.n=87∧st.env 0 = .t (.slice (ps.map prP))∧st.env 1 = .t y∧st.env 5 = .ptr c 0 0 1∧st.env 6 = .row b 0 ps.length ps.length ∧
     st.h.objs a=some (.row 3 1 (((List.replicate ps.length (0:Int)).map iv).map .t))∧st.h.objs b=some (.row 3 1 (((List.replicate ps.length (0:Int)).map iv).map .t))∧st.h.objs c=some (.row 60 1 [.row a 0 ps.length ps.length])∧st.h.next=3∧st.h.marks=[] →
     a≠b→a≠c→b≠c→a<3→b<3→c<3→flatEnd (endC Tryz.prog Tryz.f26.results.toList (code (cx.at 26) (call cx prim0) loopω A26.rest st))=some (iv (kindS ps ds)):=by
    rintro a b c ⟨nn,env,h⟩ ⟨rfl,f0,f1,f5,f6,oa,ob,oc,hx,hm⟩ ab ac bc la lb lc;simp only at f0 f1 f5 f6 oa ob oc hx hm;exact rest26 hy hl hps h0 hn f0 f1 f5 f6 (kh0 oa ob oc ab ac bc (by omega) (by omega) (by omega) hm ps rfl)
  have hml:(ps.map prP).length=ps.length:=by simp
  rcases hlm with rfl|rfl|rfl|rfl|rfl|rfl|rfl|rfl
  · obtain ⟨st,hs,hf⟩:=op26_0 hn hml q0 q1
    unfold altOne;rw [show opSeq (cx.at A26.k) (call cx prim0) A26.ops [0,1,3,4,2,5,6,7,8] ⟨87,env,.empty⟩=some st from hs]
    exact fin st hf (by decide) (by decide) (by decide) (by decide) (by decide) (by decide)
  · obtain ⟨st,hs,hf⟩:=op26_1 hn hml q0 q1
    unfold altOne;rw [show opSeq (cx.at A26.k) (call cx prim0) A26.ops [0,1,3,4,2,6,5,7,8] ⟨87,env,.empty⟩=some st from hs]
    exact fin st hf (by decide) (by decide) (by decide) (by decide) (by decide) (by decide)
  · obtain ⟨st,hs,hf⟩:=op26_2 hn hml q0 q1
    unfold altOne;rw [show opSeq (cx.at A26.k) (call cx prim0) A26.ops [0,1,3,4,2,6,7,5,8] ⟨87,env,.empty⟩=some st from hs]
    exact fin st hf (by decide) (by decide) (by decide) (by decide) (by decide) (by decide)
  · obtain ⟨st,hs,hf⟩:=op26_3 hn hml q0 q1
    unfold altOne;rw [show opSeq (cx.at A26.k) (call cx prim0) A26.ops [0,1,3,4,5,2,6,7,8] ⟨87,env,.empty⟩=some st from hs]
    exact fin st hf (by decide) (by decide) (by decide) (by decide) (by decide) (by decide)
  · obtain ⟨st,hs,hf⟩:=op26_4 hn hml q0 q1
    unfold altOne;rw [show opSeq (cx.at A26.k) (call cx prim0) A26.ops [0,1,3,4,5,6,2,7,8] ⟨87,env,.empty⟩=some st from hs]
    exact fin st hf (by decide) (by decide) (by decide) (by decide) (by decide) (by decide)
  · obtain ⟨st,hs,hf⟩:=op26_5 hn hml q0 q1
    unfold altOne;rw [show opSeq (cx.at A26.k) (call cx prim0) A26.ops [0,1,3,4,6,2,5,7,8] ⟨87,env,.empty⟩=some st from hs]
    exact fin st hf (by decide) (by decide) (by decide) (by decide) (by decide) (by decide)
  · obtain ⟨st,hs,hf⟩:=op26_6 hn hml q0 q1
    unfold altOne;rw [show opSeq (cx.at A26.k) (call cx prim0) A26.ops [0,1,3,4,6,2,7,5,8] ⟨87,env,.empty⟩=some st from hs]
    exact fin st hf (by decide) (by decide) (by decide) (by decide) (by decide) (by decide)
  · obtain ⟨st,hs,hf⟩:=op26_7 hn hml q0 q1
    unfold altOne;rw [show opSeq (cx.at A26.k) (call cx prim0) A26.ops [0,1,3,4,6,5,2,7,8] ⟨87,env,.empty⟩=some st from hs]
    exact fin st hf (by decide) (by decide) (by decide) (by decide) (by decide) (by decide)
 simp only [altRun,key,Option.map_some]
theorem c26 {ps:List PT}{ds:List DV}{l y:T}(hlp:Slice l (ps.map prP))(hy:Slice y (ds.map decT))(hl:ds.length≤2000000)(hps:∀ x∈ps,x.s.size≤1000000000)(hn:ps.length≤2000000){c:FuncId}(hm:md c 26 = .pure)(h:H) :
   callD (cx.at c) (call cx prim) 26 [.t l,.t y] h=some (.t (iv (kindS ps ds)),h):=by
 by_cases h0:ps.length=0∨256<ps.length
 · have e:kindS ps ds=0:=by unfold kindS; rw [if_pos h0]
   rw [e];exact pureT cb26 hm (s26z hlp h0 hn) rfl rfl
 · have:l = .slice (ps.map prP):=hlp.eq_of_ne (fun e=>h0 (.inl (by simpa using e)))
   subst this;exact pureT cb26 hm (s26 hy hl hps (by omega) (by omega)) rfl rfl
end Go.Proofs.YtaldobgfbkllfaaGreatDoor

namespace Go.Proofs.YtaldobgfbkllfaaGreatDoor
open Vai
set_option maxHeartbeats 0
def WF (out:List PT):Prop:=∀ (i:Nat) (x:PT),out[i]?=some x→∀ j∈usesS x,0≤j∧j<i
theorem WF.add {out:List PT}{p:PT}(h:WF out)(hp:∀ j∈usesS p,0≤j∧j<out.length):WF (out ++ [p]):=by
 intro i x hx;rcases Nat.lt_trichotomy i out.length with hi|hi|hi
 · rw [List.getElem?_append_left hi] at hx; exact h i x hx
 · subst hi
   rw [List.getElem?_append_right (Nat.le_refl _)] at hx;simp at hx;subst hx;exact hp
 · rw [List.getElem?_append_right (by omega)] at hx
   rw [List.getElem?_eq_none (by simp; omega)] at hx
   cases hx
theorem uses_leaf {t:Tk}{p:PT}(h:leafA t=some p):usesS p=[]:=by
 have:p.k=1∨p.k=2:=by
  unfold leafA at h;split at h
  · cases h; exact .inl rfl
  split at h
  · cases h; exact .inl rfl
  split at h
  · cases h
  split at h
  · cases h; exact .inl rfl
  split at h
  · cases h; exact .inl rfl
  split at h
  · cases h
  · cases h; exact .inr rfl
 unfold usesS;rcases this with e|e<;>simp [e]
def WFR:Mo→List PT→PR→Prop
 | .ch _ a _,out,.ok v _ out2=>WF out→a<out.length→WF out2∧v<out2.length∧out.length≤out2.length
 | _,out,.ok v _ out2=>WF out→WF out2∧v<out2.length∧out.length≤out2.length
 | _,_,.er _ _=>True
theorem uses1 {op a p:Int}(h:op=3∨op=4∨op=5):∀ j∈usesS (nod op a 0 0 p),j=a:=by
 intro j hj;unfold usesS nod at hj;rcases h with rfl|rfl|rfl<;>simpa using hj
theorem uses2 {op a b p:Int}(h1:6≤op)(h2:op≤18):∀ j∈usesS (nod op a b 0 p),j=a∨j=b:=by
 intro j hj;unfold usesS nod at hj;simp only at hj;rw [if_neg (by omega),if_pos ⟨h1,h2⟩] at hj
 simpa using hj
theorem uses3 {a b c p:Int}:∀ j∈usesS (nod 19 a b c p),j=a∨j=b∨j=c:=by
 intro j hj;unfold usesS nod at hj;simpa using hj
theorem opA_lt {l i:Nat}{x:ByteArray}(h:opA l x=some i):i<13:=by
 unfold opA at h
 cases hf:sgn.findIdx? (fun y=>decide (y=x)) with
 | none=>rw [hf] at h; cases h
 | some j =>
  rw [hf] at h;simp only at h;split at h
  · cases h
    rw [List.findIdx?_eq_some_iff_getElem] at hf;obtain ⟨hk,_⟩:=hf;exact hk
  · cases h
theorem negA_op {x:ByteArray}{op:Int}(h:negA x=some op):op=3∨op=4∨op=5:=by
 unfold negA at h;split at h
 · cases h; exact .inl rfl
 split at h
 · cases h; exact .inr (.inl rfl)
 · cases h
theorem wf1 {out:List PT}{op p:Int}{v:Nat}(h:WF out)(ho:op=3∨op=4∨op=5)(hv:v<out.length):WF (out ++ [nod op v 0 0 p]) :=
 h.add fun j hj=>by rw [uses1 ho j hj]; omega
theorem rd_wf {L:Int}{mo:Mo}{ts:List Tk}{d:Nat}{out:List PT}{r:PR}(h:Rd L mo ts d out r):WFR mo out r:=by
 induction h with
 | un_ok h1 h2 h3 ih =>
  intro hw;obtain ⟨a,b,c⟩:=ih hw;exact ⟨wf1 a (negA_op h1) b,by simp,by simp; omega⟩
 | un_leaf h1 h2=>exact fun hw=>⟨hw.add (by rw [uses_leaf h2]; intro j hj; cases hj),by simp,by simp⟩
 | un_br h1 h2 h3 ih=>rename_i r; cases r<;>exact ih
 | len_ok h1 h2 h3 h4 h5 ih =>
  intro hw;obtain ⟨a,b,c⟩:=ih hw;exact ⟨wf1 a (.inr (.inr rfl)) b,by simp,by simp; omega⟩
 | br_ok h1 h2 h3 h4 ih=>exact ih
 | lv_ok h1 h2 h3 ih1 ih2 =>
  rename_i r
  cases r with
  | er p w=>trivial
  | ok v ts4 out4 =>
   intro hw;obtain ⟨a,b,c⟩:=ih1 hw;obtain ⟨a2,b2,c2⟩:=ih2 a b;exact ⟨a2,b2,by omega⟩
 | ch_end h1=>exact fun hw ha=>⟨hw,ha,Nat.le_refl _⟩
 | ch_ok h1 h2 h3 h4 ih1 ih2 =>
  rename_i r _ _ _
  cases r with
  | er p w=>trivial
  | ok v ts4 out4 =>
   intro hw ha;obtain ⟨a,b,c⟩:=ih1 hw;have hi:=opA_lt h2;obtain ⟨a2,b2,c2⟩:=ih2 (a.add fun j hj=>by
    rcases uses2 (by omega) (by omega) j hj with e|e<;>rw [e]<;>omega) (by simp)
   simp only [List.length_append,List.length_cons,List.length_nil] at c2;exact ⟨a2,b2,by omega⟩
 | fo_no h1 h2 ih=>exact ih
 | fo_ok h1 h2 h3 h4 h5 h6 ih1 ih2 ih3 =>
  intro hw;obtain ⟨a1,b1,c1⟩:=ih1 hw;obtain ⟨a2,b2,c2⟩:=ih2 a1;obtain ⟨a3,b3,c3⟩:=ih3 a2;exact ⟨a3.add fun j hj=>by rcases uses3 j hj with e|e|e<;>rw [e]<;>omega,by simp,by simp; omega⟩
 | _=>trivial
end Go.Proofs.YtaldobgfbkllfaaGreatDoor
namespace Go.Proofs.YtaldobgfbkllfaaGreatDoor
open Vai
variable [Gl]
set_option maxHeartbeats 0
set_option maxRecDepth 100000
theorem c40 {c:FuncId}{n:Nat}{h:H}{P:Nat}{s:ByteArray}{ts:List Tk}{r:PR}(hp:P0.PX n h P s ts 0 [])(hl:ts.length≤256)(hr:Rd s.size (.lv 6) ts 0 [] r)(hm:md c 40 = .keep) :
  ∃ h',callD (cx.at c) (call cx prim) 40 [.ptr P 0 0 1] h=some (.t (.agg [.int .i64 (P0.fauA r).1,.int .i64 (P0.fauA r).2]),h')∧∀ v out2,r = .ok v [] out2→P0.PX n h' P s [] 0 out2∧h.next≤h'.next∧∀ id,id<n→h'.objs id=h.objs id:=by
 have ih:∀ h,P0.PX n h P s ts 0 []→P0.Res 75 n h P s 0 r:=fun h hp=>P0.rd_ok hr n h P hp (by omega) hl (by simp; omega)
 have hpr:∀ h,call cx prim 40 [.ptr P 0 0 1] h=guardA cx (call cx prim0) loopω G40 40 [.ptr P 0 0 1] h:=fun h=>call_prim (cx:=cx) (prim:=prim) (k:=40) (g:=guardA cx (call cx prim0) loopω G40) (by unfold prim; rw [if_pos rfl]) _ _
 cases r with
 | er p w =>
  obtain ⟨h',q⟩:=P0.s40_er hp ih;exact ⟨h',keepT cb40 hm (by rw [hpr]; exact q),fun v out2 e=>by cases e⟩
 | ok v ts2 out2 =>
  cases ts2 with
  | nil =>
   obtain ⟨h',q,k⟩:=P0.s40_ok hp ih;exact ⟨h',keepT cb40 hm (by rw [hpr]; exact q),fun v out2 e=>by cases e; exact k⟩
  | cons t ts2 =>
   obtain ⟨h',q⟩:=P0.s40_left hp ih;exact ⟨h',keepT cb40 hm (by rw [hpr]; exact q),fun v out2 e=>by cases e⟩
end Go.Proofs.YtaldobgfbkllfaaGreatDoor

namespace Go.Proofs.YtaldobgfbkllfaaGreatDoor.P0
open Vai
variable [Gl]
set_option maxHeartbeats 0
set_option maxRecDepth 100000
structure KQ (a o c P:Nat) (s:ByteArray) (tx:T) (ks:List Int) (ps:List PT) (h:H):Prop where
 oa:h.objs a=some (.row 3 1 ((ks.map iv).map .t))
 oo:h.objs o=some (.row 57 9 ((ps.map prP).map .t))
 oc:h.objs c=some (.row 60 1 [.row a 0 ks.length ks.length])
 oP:h.objs P=some (psO s tx 0 (.row o 0 ps.length ps.length))
 ao:a≠o
 ac:a≠c
 aP:a≠P
 la:a<h.next
 lo:o<h.next
 lc:c<h.next
 lP:P<h.next
 hm:h.marks=[]
section
variable {a o c P:Nat}{s:ByteArray}{tx:T}{ks ks':List Int}{ps:List PT}{h h':H}
theorem KQ.keeps (k:KQ a o c P s tx ks ps h)(kp:Keeps h h'):KQ a o c P s tx ks ps h' where
 oa:=kp.obj k.oa k.la
 oo:=kp.obj k.oo k.lo
 oc:=kp.obj k.oc k.lc
 oP:=kp.obj k.oP k.lP
 ao:=k.ao
 ac:=k.ac
 aP:=k.aP
 la:=Nat.lt_of_lt_of_le k.la kp.1
 lo:=Nat.lt_of_lt_of_le k.lo kp.1
 lc:=Nat.lt_of_lt_of_le k.lc kp.1
 lP:=Nat.lt_of_lt_of_le k.lP kp.1
 hm:=kp.2.1.trans k.hm
theorem KQ.setA (k:KQ a o c P s tx ks ps h)(hl:ks'.length=ks.length):KQ a o c P s tx ks' ps (h.set a (.row 3 1 ((ks'.map iv).map .t))) where
 oa:=by simp [H.set,upd]
 oo:=by simp only [H.set,upd]; rw [if_neg (Ne.symm k.ao)]; exact k.oo
 oc:=by simp only [H.set,upd]; rw [if_neg (Ne.symm k.ac),hl]; exact k.oc
 oP:=by simp only [H.set,upd]; rw [if_neg (Ne.symm k.aP)]; exact k.oP
 ao:=k.ao
 ac:=k.ac
 aP:=k.aP
 la:=k.la
 lo:=k.lo
 lc:=k.lc
 lP:=k.lP
 hm:=k.hm
theorem k42 (k:KQ a o c P s tx ks ps h){j:Int}(h0:0≤j)(hj:j<ks.length)(q:FuncId)(hq:md q 42 = .keep):callD (cx.at q) (call cx prim0) 42 [.t (iv j),.ptr c 0 0 1] h=some (.t (iv (getK ks j)),h):=by
 have:call cx prim0 42 [.t (iv j),.ptr c 0 0 1] h=some (.t (iv (getK ks j)),h):=by
  rw [call_run (cx:=cx) rfl Tryz.func42 ok42 nd42 rfl (lbe rfl) rfl rfl];have hg:((ks.map iv).map D.t)[j.toNat]?=some (.t (iv (getK ks j))):=by
   rw [List.getElem?_map,List.getElem?_map,getK_some h0 hj]; rfl
  have hj':j.toNat<ks.length:=by omega
  simp -implicitDefEqProofs (disch:=omega) [-List.getElem?_map,-List.map_map,k.oa,k.oc,hg,hj']
 exact keepT cb42 hq this
end
end Go.Proofs.YtaldobgfbkllfaaGreatDoor.P0

namespace Go.Proofs.YtaldobgfbkllfaaGreatDoor
open Vai P0
variable [Gl]
set_option maxHeartbeats 0
set_option maxRecDepth 100000
def BadAt (ps:List PT)(ds:List DV)(p w:Int):Prop:=∃ (k:Nat) (x:PT),ps[k]?=some x∧goodK ps ds k=true∧goodK ps ds (k+1)=false∧p=x.at_∧w=if x.k=2 then 133 else 132
theorem l20 {n:Nat}{h0:H}{a o c P:Nat}{s:ByteArray}{tx:T}{ps:List PT}{ds:List DV}{y:T}(hy:Slice y (ds.map decT))(hl:ds.length≤2000000)(hps:∀ x∈ps,x.s.size≤1000000000)(hn:ps.length≤256)(hwf:WF ps){st:St}{r:CR}
   (hLp:loopω (LB cx prim 20 Tryz.f20 0) st=r) (en:st.n=80) (e1:st.env 1 = .t y) (e10:st.env 10 = .ptr P 0 0 1) (e12:st.env 12 = .ptr c 0 0 1) (e47:st.env 47 = .row o 0 ps.length ps.length) (e48:st.env 48 = .t (.int .i64 ps.length)) (e49:st.env 49 = .t (.int .i64 0))
   (hK:KQ a o c P s tx (padK [] ps.length) ps st.h) (hna:n≤a) (hfr:∀ id,id<n→st.h.objs id=h0.objs id) :
   ∃ x' st',r=some (x',st')∧st'.n=80∧((x' = .exit 0∧goodK ps ds ps.length=true∧st'.env 10 = .ptr P 0 0 1∧KQ a o c P s tx (kindsL ps ds ps.length) ps st'.h∧∀ id,id<n→st'.h.objs id=h0.objs id) ∨
     (x' = .ret∧∃ p w,BadAt ps ds p w∧st'.env 4 = .t .nilSlice∧st'.env 5 = .t (iv p)∧st'.env 6 = .t (iv w))):=by
 refine loop_uses hLp ps.length
   (fun k s'=>s'.n=80∧s'.env 1 = .t y∧s'.env 10 = .ptr P 0 0 1∧s'.env 12 = .ptr c 0 0 1∧s'.env 47 = .row o 0 ps.length ps.length∧s'.env 48 = .t (.int .i64 ps.length)∧s'.env 49 = .t (.int .i64 k)∧goodK ps ds k=true∧KQ a o c P s tx (padK (kindsL ps ds k) ps.length) ps s'.h∧∀ id,id<n→s'.h.objs id=h0.objs id)
   (fun x' st'=>st'.n=80∧((x' = .exit 0∧goodK ps ds ps.length=true∧st'.env 10 = .ptr P 0 0 1∧KQ a o c P s tx (kindsL ps ds ps.length) ps st'.h∧∀ id,id<n→st'.h.objs id=h0.objs id) ∨
     (x' = .ret∧∃ p w,BadAt ps ds p w∧st'.env 4 = .t .nilSlice∧st'.env 5 = .t (iv p)∧st'.env 6 = .t (iv w))))
   ⟨en,e1,e10,e12,e47,e48,e49,rfl,hK,hfr⟩ ?_
 clear hLp en e1 e10 e12 e47 e48 e49 hK hfr st;rintro k ⟨nn,env,h2⟩ hk ⟨rfl,e1,e10,e12,e47,e48,e49,hg,hK,hfr⟩;simp only at e1 e10 e12 e47 e48 e49 hK hfr;rw [LB_run nd20 rfl];by_cases hk':k<ps.length
 · obtain ⟨x,hx⟩:∃ x,ps[k]?=some x:=⟨ps[k],List.getElem?_eq_getElem hk'⟩
   have hxm:=hps x (List.mem_of_getElem? hx);have hgx:((ps.map prP).map D.t)[k]?=some (.t (prP x)):=by rw [List.getElem?_map,List.getElem?_map,hx]; rfl
   have hlx:((ps.map prP).map D.t).length=ps.length:=by simp
   have kp1:Keeps h2 (h2.push (.row 57 9 [.t (prP x)])):=Keeps.push _ _;have hK3:=hK.keeps kp1;have hkl:(kindsL ps ds k).length=k:=kindsL_len ps ds k;have hpl:(padK (kindsL ps ds k) ps.length).length=ps.length:=padK_len (by omega)
   have hus:=hwf k x hx;have hKr:∀ j∈usesS x,1≤getK (kindsL ps ds k) j∧getK (kindsL ps ds k) j≤3:=fun j hj=>good_range hg j (hus j hj).1 (hus j hj).2
   have kp4:Keeps (h2.push (.row 57 9 [.t (prP x)])) (H41 (h2.push (.row 57 9 [.t (prP x)])) x 42 c):=(Keeps.push _ _).trans (Keeps.push _ _);have hK4:=hK3.keeps kp4;have hla:=hK.la;have fr4:∀ id,id<n→(H41 (h2.push (.row 57 9 [.t (prP x)])) x 42 c).objs id=h0.objs id:=fun id hid=>by
     rw [←hfr id hid,kp4.2.2 id (by simp; omega),kp1.2.2 id (by omega)]
   have q41:=callD_mono (call_prims prim0Le) (keepT (cc:=cx.at 20) cb41 rfl (s41 (x:=x) (fo:=42) (ko:=c) (K:=getK (kindsL ps ds k)) hy hl hK3.hm hxm hKr (fun j hj q hq=>by
     have h1:=hus j hj;have:=k42 hK4 (j:=j) h1.1 (by rw [hpl]; omega) q (by rcases hq with rfl|rfl|rfl<;>rfl)
     rw [padK_get h1.1 (by omega)] at this
     exact this)))
   have hga:=goodK_at (ds:=ds) hx hg;have hsb:sidesB x k=true:=by
     unfold sidesB;rw [List.all_eq_true];intro j hj;simpa using hus j hj
   rw [hsb,Bool.true_and] at hga;have hka:=kindsL_at (ds:=ds) hx;generalize hV:kdS x ds (getK (kindsL ps ds k))=v at q41 hga hka;have o2o:=hK.oo;have o3c:=hK3.oc;rw [hpl] at o3c;have o4c:=hK4.oc;rw [hpl] at o4c;have o4a:=hK4.oa;have hst:=store_iv hK4.oa (i:=k) (by rw [hpl]; exact hk') v
   have hK5:=hK4.setA (ks':=(padK (kindsL ps ds k) ps.length).set k v) (by simp)
   have hset:(padK (kindsL ps ds k) ps.length).set k v=padK (kindsL ps ds (k+1)) ps.length:=by
     rw [hka,←padK_set (by omega),hkl]
   rw [hset] at hst hK5;rw [hpl] at hst;have x4:(H41 (h2.push (.row 57 9 [.t (prP x)])) x 42 c).objs h2.next=some (.row 57 9 [.t (prP x)]):=kp4.obj (by simp) (by simp)
   generalize hH4:H41 (h2.push (.row 57 9 [.t (prP x)])) x 42 c=h4 at *;have hx5:∀ w,(h4.set a w).objs h2.next=some (.row 57 9 [.t (prP x)]):=fun w=>by
     have:h2.next≠a:=by have:=hK.la; omega
     simp only [set_objs,upd_ne _ _ this]; exact x4
   have fr5:∀ w,∀ id,id<n→(h4.set a w).objs id=h0.objs id:=fun w id hid=>by
     rw [set_objs,upd_ne _ _ (show id≠a by omega)]; exact fr4 id hid
   have fr6:=fr5 (.row 3 1 (((padK (kindsL ps ds (k+1)) ps.length).map iv).map .t));generalize hh5:h4.set a (.row 3 1 (((padK (kindsL ps ds (k+1)) ps.length).map iv).map .t))=h5 at hst hK5 fr6;have x5:h5.objs h2.next=some (.row 57 9 [.t (prP x)]):=by rw [←hh5]; exact hx5 _
   have hpl5:(padK (kindsL ps ds (k+1)) ps.length).length=ps.length:=padK_len (by rw [kindsL_len]; omega)
   have o5c:=hK5.oc;rw [hpl5] at o5c;have o5a:=hK5.oa;have g5:(((padK (kindsL ps ds (k+1)) ps.length).map iv).map D.t)[k]?=some (.t (iv v)):=by
     rw [←hset,List.getElem?_map,List.getElem?_map,List.getElem?_set_self (by omega)]; rfl
   have l4:(((padK (kindsL ps ds k) ps.length).map iv).map D.t).length=ps.length:=by simp [hpl]
   have l5:(((padK (kindsL ps ds (k+1)) ps.length).map iv).map D.t).length=ps.length:=by simp [hpl5]
   generalize ((padK (kindsL ps ds k) ps.length).map iv).map D.t=E4 at o4a l4;generalize hE5:((padK (kindsL ps ds (k+1)) ps.length).map iv).map D.t=E5 at o5a l5 g5;generalize hEX:(ps.map prP).map D.t=EX at o2o hgx hlx;have hst0:=pst (h:=h2.push (.row 57 9 [.t (prt 0 0 0 0 0 0 ⟨#[]⟩ ⟨#[]⟩ 0)])) (id:=h2.next) (k:=0) (a:=0) (b:=0) (c:=0) (vk:=0) (vn:=0) (pos:=0) (s:=⟨#[]⟩) (nm:=⟨#[]⟩) (by simp) x.k x.a x.b x.c x.vk x.vn x.at_ x.s x.nm
   have hnx:¬ (c=h2.next):=by have:=hK.lc; omega
   have hv1:0≤v:=hV ▸ (kdS_range hKr).1;by_cases hv0:v=0
   · have e0:ltI 0 v=false:=by rw [hv0]; rfl
     have hbad:BadAt ps ds x.at_ (if x.k=2 then 133 else 132):=⟨k,x,hx,hg,by rw [hga]; simp [hv0],rfl,rfl⟩
     by_cases hx2:x.k=2
     · have e2:eqI x.k 2=true:=eqI_true hx2
       rw [if_pos hx2] at hbad;simp -implicitDefEqProofs (disch:=omega) [-List.getElem?_map,-List.map_map,-storeD,-getElem?_pos,e1,e10,e12,e47,e48,e49,hk',o2o,hgx,hlx,push_set,o3c,q41,o4c,o4a,l4,hst,o5c,o5a,l5,g5,md,x5,hst0,hnx,e0,e2,Wp_some];exact hbad
     · have e2:eqI x.k 2=false:=eqI_false hx2
       rw [if_neg hx2] at hbad;simp -implicitDefEqProofs (disch:=omega) [-List.getElem?_map,-List.map_map,-storeD,-getElem?_pos,e1,e10,e12,e47,e48,e49,hk',o2o,hgx,hlx,push_set,o3c,q41,o4c,o4a,l4,hst,o5c,o5a,l5,g5,md,x5,hst0,hnx,e0,e2,Wp_some];exact hbad
   · have e0:ltI 0 v=true:=by simp [ltI]; omega
     simp -implicitDefEqProofs (disch:=omega) [-List.getElem?_map,-List.map_map,-storeD,-getElem?_pos,e1,e10,e12,e47,e48,e49,hk',o2o,hgx,hlx,push_set,o3c,q41,o4c,o4a,l4,hst,o5c,o5a,l5,g5,md,x5,hst0,hnx,e0,Wp_some];exact ⟨by rw [hga]; simp [hv0],hK5,fr6⟩
 · obtain rfl:k=ps.length:=by omega
   simp -implicitDefEqProofs (disch:=omega) [e1,e10,e12,e47,e48,e49,Wp_some];have e:padK (kindsL ps ds ps.length) ps.length=kindsL ps ds ps.length:=by simp [padK,kindsL_len]
   rw [e] at hK;exact ⟨hg,hK,hfr⟩
end Go.Proofs.YtaldobgfbkllfaaGreatDoor
