import Derived.Test.YtaldobgfbkllfaaGreatDoorVaiSm
import Derived.Test.YtaldobgfbkllfaaGreatDoorVaiSk
set_option linter.unusedSimpArgs false
set_option linter.unusedVariables false
set_option linter.unusedSectionVars false
namespace Go.Proofs.YtaldobgfbkllfaaGreatDoor
open Vai
variable [Gl]
set_option maxHeartbeats 0
set_option maxRecDepth 100000
abbrev at3 (x:PT):List Int:=[x.a,x.b,x.c]
def usesC (x:PT):Nat:=(usesN x.k).toNat
theorem uses_take (x:PT):usesS x=(at3 x).take (usesC x)∧usesC x≤3∧usesN x.k=usesC x:=by
 unfold usesC usesS usesN;by_cases h1:x.k=19
 · rw [if_pos h1,if_neg (by omega),if_neg (by omega),if_pos h1]; exact ⟨rfl,by decide,rfl⟩
 · rw [if_neg h1]
   by_cases h2:6≤x.k∧x.k≤18
   · rw [if_pos h2,if_neg (by omega),if_pos h2]; exact ⟨rfl,by decide,rfl⟩
   · rw [if_neg h2]
     by_cases h3:3≤x.k∧x.k≤5
     · rw [if_pos h3,if_pos h3]; exact ⟨rfl,by decide,rfl⟩
     · rw [if_neg h3,if_neg h3,if_neg h2,if_neg h1]; exact ⟨rfl,by decide,rfl⟩
theorem l37_2 {us:List Int}{x:PT}{i n p:Nat}(hn:us.length=n)(hin:i<n)(hb0:smallU us 1000000)(hpb:p≠0){st:St}{r:CR}(hLp:loopω (LB cx prim 37 Tryz.f37 2) st=r)
   (en:st.n=109) (e5:st.env 5 = .row 0 0 n n) (e6:st.env 6 = .t (.int .i64 i)) (e7:st.env 7 = .t (.int .i64 (usesC x))) (e8:st.env 8 = .ptr p 0 0 3) (e9:st.env 9 = .t (.int .i64 0)) (hK:KR us st.h) (hp:st.h.objs p=some (.row 114 1 [.t (iv x.a),.t (iv x.b),.t (iv x.c)]))
   {d0 d1:D} (e0:st.env 0=d0) (e1:st.env 1=d1) :
   ∃ x' st',r=some (x',st')∧st'.n=109∧((x' = .exit 2∧sidesB x i=true∧st'.env 5 = .row 0 0 n n∧st'.env 6 = .t (.int .i64 i)∧st'.env 0=d0∧st'.env 1=d1∧KR ((usesS x).foldl bump us) st'.h)∨(x' = .ret∧sidesB x i=false∧st'.env 4 = .t (iv 0))):=by
 obtain ⟨hut,hu3,-⟩:=uses_take x;have hul:(usesS x).length=usesC x:=by rw [hut]; simp; omega
 rw [sidesB_allIn];refine loop_uses hLp (usesC x)
   (fun m s=>s.n=109∧s.env 5 = .row 0 0 n n∧s.env 6 = .t (.int .i64 i)∧s.env 7 = .t (.int .i64 (usesC x))∧s.env 8 = .ptr p 0 0 3∧s.env 9 = .t (.int .i64 m)∧s.env 0=d0∧s.env 1=d1 ∧
     allIn ((usesS x).take m) i=true∧KR (((usesS x).take m).foldl bump us) s.h∧s.h.objs p=some (.row 114 1 [.t (iv x.a),.t (iv x.b),.t (iv x.c)]))
   (fun x' st'=>st'.n=109∧((x' = .exit 2∧allIn (usesS x) i=true∧st'.env 5 = .row 0 0 n n∧st'.env 6 = .t (.int .i64 i)∧st'.env 0=d0∧st'.env 1=d1∧KR ((usesS x).foldl bump us) st'.h)∨(x' = .ret∧allIn (usesS x) i=false∧st'.env 4 = .t (iv 0))))
   ⟨en,e5,e6,e7,e8,e9,e0,e1,rfl,hK,hp⟩ ?_
 clear hLp en e5 e6 e7 e8 e9 e0 e1 hK hp st;rintro m ⟨nn,env,h2⟩ hm ⟨rfl,e5,e6,e7,e8,e9,e0,e1,hall,hK,hp⟩;simp only at e5 e6 e7 e8 e9 e0 e1 hK hp;rw [LB_run nd37 rfl];by_cases hm':m<usesC x
 · obtain ⟨j,hj⟩:∃ j,(usesS x)[m]?=some j:=⟨(usesS x)[m]'(by omega),List.getElem?_eq_getElem (by omega)⟩
   have hg:([.t (iv x.a),.t (iv x.b),.t (iv x.c)]:List D)[m]?=some (.t (iv j)):=by
     rw [hut,List.getElem?_take_of_lt hm'] at hj
     match m,hj with
     | 0,hj=>cases hj; rfl
     | 1,hj=>cases hj; rfl
     | 2,hj=>cases hj; rfl
   have hl3:([.t (iv x.a),.t (iv x.b),.t (iv x.c)]:List D).length=3:=rfl;have hm3:m<3:=by omega
   have c1:(m:Int)<(usesC x:Int):=by omega
   have htk:(usesS x).take (m+1)=(usesS x).take m ++ [j]:=by rw [List.take_add_one,hj]; rfl
   have hbad:¬ (0≤j∧j<i)→allIn (usesS x) i=false:=fun hn=>by
     unfold allIn;rw [List.all_eq_false];exact ⟨j,List.mem_of_getElem? hj,by simp only [decide_eq_true_eq]; exact hn⟩
   generalize hE3:([.t (iv x.a),.t (iv x.b),.t (iv x.c)]:List D)=E3 at hp hg hl3;by_cases h0:j<0
   · simp -implicitDefEqProofs (disch:=omega) [-List.getElem?_map,-storeD,-getElem?_pos,e5,e6,e7,e8,e9,hp,hg,hl3,hm3,Wp_some]
     exact hbad (by omega)
   · by_cases h1:(i:Int)≤j
     · simp -implicitDefEqProofs (disch:=omega) [-List.getElem?_map,-storeD,-getElem?_pos,e5,e6,e7,e8,e9,hp,hg,hl3,hm3,h0,Wp_some]
       exact hbad (by omega)
     · have hul:(((usesS x).take m).foldl bump us).length=n:=by rw [bumps_len,hn]
       have hju:j.toNat<(((usesS x).take m).foldl bump us).length:=by omega
       have hget:(((((usesS x).take m).foldl bump us).map iv).map D.t)[j.toNat]?=some (.t (iv (getK (((usesS x).take m).foldl bump us) j))):=by
         rw [List.getElem?_map,List.getElem?_map,getK_some (by omega) (by omega)]; rfl
       have hst:=P0.store_iv hK.o hju (getK (((usesS x).take m).foldl bump us) j+1);have hK2:=hK.set (ks':=bump (((usesS x).take m).foldl bump us) j);have hsm:=(hb0.bumps (js:=(usesS x).take m) (by omega)).get (by omega) j
       have hlen3:(((usesS x).take m).length:Int)≤3:=by simp; omega
       have hbr:=hK.o;have hbu:(bump (((usesS x).take m).foldl bump us) j)=(((usesS x).take m).foldl bump us).set j.toNat (getK (((usesS x).take m).foldl bump us) j+1):=rfl;have hfo:((usesS x).take (m+1)).foldl bump us=bump (((usesS x).take m).foldl bump us) j:=by rw [htk,List.foldl_append]; rfl
       rw [hul] at hst hju;rw [←hbu] at hst;generalize hU:((usesS x).take m).foldl bump us=U at *;have hlu:((U.map iv).map D.t).length=n:=by simp [hul]
       have hjn:j.toNat<n:=hju;have hK2':=hK2;clear hK2;generalize hE:(U.map iv).map D.t=E at hbr hget hlu;simp -implicitDefEqProofs (disch:=omega) [-List.getElem?_map,-List.map_map,-storeD,-getElem?_pos,e5,e6,e7,e8,e9,e0,e1,hp,hg,hl3,hm3,h0,h1,hbr,hget,hst,hlu,hjn,Wp_some];refine ⟨hm',?_,?_,?_⟩
       · unfold allIn at hall ⊢
         rw [htk,List.all_append,hall];simp; omega
       · rw [hfo]; exact hK2'
       · exact fun h=>absurd h hpb
 · obtain rfl:m=usesC x:=by omega
   rw [List.take_of_length_le (by omega)] at hall hK
   simp -implicitDefEqProofs (disch:=omega) [e5,e6,e7,e8,e9,e0,e1,Wp_some];exact ⟨hall,hK⟩
theorem l37_0 {ps:List PT}(hln:ps.length≤256){st:St}{r:CR}(hLp:loopω (LB cx prim 37 Tryz.f37 0) st=r)
   (en:st.n=109) (e0:st.env 0 = .t (.slice (ps.map prP))) {y:T} (e1:st.env 1 = .t y) (e5:st.env 5 = .row 0 0 ps.length ps.length) (e6:st.env 6 = .t (.int .i64 0)) (hK:KR (usedL ps 0) st.h) :
   ∃ x' st',r=some (x',st')∧st'.n=109∧((x' = .exit 0∧sidesAll ps∧st'.env 0 = .t (.slice (ps.map prP))∧st'.env 1 = .t y∧st'.env 5 = .row 0 0 ps.length ps.length∧KR (usedL ps ps.length) st'.h)∨(x' = .ret∧¬ sidesAll ps∧st'.env 4 = .t (iv 0))):=by
 refine loop_uses hLp ps.length
   (fun k s=>s.n=109∧s.env 0 = .t (.slice (ps.map prP))∧s.env 1 = .t y∧s.env 5 = .row 0 0 ps.length ps.length∧s.env 6 = .t (.int .i64 k)∧(∀ j x,j<k→ps[j]?=some x→sidesB x j=true)∧KR (usedL ps k) s.h)
   (fun x' st'=>st'.n=109∧((x' = .exit 0∧sidesAll ps∧st'.env 0 = .t (.slice (ps.map prP))∧st'.env 1 = .t y∧st'.env 5 = .row 0 0 ps.length ps.length∧KR (usedL ps ps.length) st'.h)∨(x' = .ret∧¬ sidesAll ps∧st'.env 4 = .t (iv 0))))
   ⟨en,e0,e1,e5,e6,fun j x h=>by omega,hK⟩ ?_
 clear hLp en e0 e1 e5 e6 hK st;rintro k ⟨nn,env,h⟩ hk ⟨rfl,e0,e1,e5,e6,hall,hK⟩;simp only at e0 e1 e5 e6 hK;rw [LB_run nd37 rfl];by_cases hk':k<ps.length
 · obtain ⟨x,hx⟩:∃ x,ps[k]?=some x:=⟨ps[k],by simp [hk']⟩
   have hgx:(ps.map prP)[k]?=some (prP x):=by rw [List.getElem?_map,hx]; rfl
   have c1:(k:Int)<ps.length:=by omega
   have q67:=fun k h=>c67 (c:=37) k h rfl
   have hu:=(uses_take x).2.2;have hK1:=hK.push (.row 114 1 [.t (iv x.a),.t (iv x.b),.t (iv x.c)]);simp -implicitDefEqProofs (disch:=omega) [-List.getElem?_map,e0,e1,e5,e6,hgx,q67,hu,md,push_set];generalize hLp:loopω (LB cx prim 37 Tryz.f37 2) _=R;obtain ⟨x',⟨nn,env2,h3⟩,rfl,rfl,hq⟩:=l37_2 (us:=usedL ps k) (x:=x) (i:=k) (n:=ps.length) (p:=h.next) (usedL_len ps k) hk' (fun t v hv=>by have:=usedL_small ps k t v hv; omega) (by have:=hK.l; omega) hLp rfl
     (by simp [e5]) (by simp [e6]) (by simp [hu]) (by simp) (by simp) hK1 (by simp) (d0:=.t (.slice (ps.map prP))) (d1:=.t y) (by simp [e0]) (by simp [e1])
   rcases hq with ⟨rfl,hs,f5,f6,f0,f1,hK2⟩|⟨rfl,hs,f4⟩
   · simp only at f5 f6 f0 f1 hK2
     simp -implicitDefEqProofs (disch:=omega) [f5,f6,f0,f1,Wp_some];refine ⟨hk',fun j z hj hz=>?_,by rw [usedL_at hx]; exact hK2⟩
     by_cases e:j=k
     · subst e; rw [hx] at hz; cases hz; exact hs
     · exact hall j z (by omega) hz
   · simp only at f4
     simp -implicitDefEqProofs (disch:=omega) [f4,Wp_some];intro hsa;have:=hsa k x hx;rw [hs] at this; cases this
 · obtain rfl:k=ps.length:=by omega
   simp -implicitDefEqProofs (disch:=omega) [e0,e1,e5,e6,Wp_some];exact ⟨fun j x hx=>hall j x (by
     rcases Nat.lt_or_ge j ps.length with h1|h1
     · exact h1
     · rw [List.getElem?_eq_none h1] at hx; cases hx) hx,hK⟩
def okAt37 (ks us:List Int)(n k:Nat):Bool:=!decide (getK ks k=0)&&(!decide (k<n-1)||decide (getK us k=1))
theorem l37_4 {ps:List PT}{ks us:List Int}(hln:ps.length≤256)(h0:0<ps.length)(hks:ks.length=ps.length)(hus:us.length=ps.length){st:St}{r:CR}(hLp:loopω (LB cx prim 37 Tryz.f37 4) st=r)
   (en:st.n=109) (e0:st.env 0 = .t (.slice (ps.map prP))) (e5:st.env 5 = .row 0 0 ps.length ps.length) (e10:st.env 10 = .t (.slice (ks.map iv))) (e11:st.env 11 = .t (.int .i64 0)) (hK:KR us st.h) :
   ∃ x' st',r=some (x',st')∧st'.n=109∧((x' = .exit 4∧(∀ k,k<ps.length→okAt37 ks us ps.length k=true)∧st'.env 0 = .t (.slice (ps.map prP))∧st'.env 10 = .t (.slice (ks.map iv)))∨(x' = .ret∧(∃ k,k<ps.length∧okAt37 ks us ps.length k=false)∧st'.env 4 = .t (iv 0))):=by
 refine loop_uses hLp ps.length
   (fun k s=>s.n=109∧s.env 0 = .t (.slice (ps.map prP))∧s.env 5 = .row 0 0 ps.length ps.length∧s.env 10 = .t (.slice (ks.map iv))∧s.env 11 = .t (.int .i64 k)∧(∀ j,j<k→okAt37 ks us ps.length j=true)∧KR us s.h)
   (fun x' st'=>st'.n=109∧((x' = .exit 4∧(∀ k,k<ps.length→okAt37 ks us ps.length k=true)∧st'.env 0 = .t (.slice (ps.map prP))∧st'.env 10 = .t (.slice (ks.map iv)))∨(x' = .ret∧(∃ k,k<ps.length∧okAt37 ks us ps.length k=false)∧st'.env 4 = .t (iv 0))))
   ⟨en,e0,e5,e10,e11,fun j h=>by omega,hK⟩ ?_
 clear hLp en e0 e5 e10 e11 hK st;rintro k ⟨nn,env,h⟩ hk ⟨rfl,e0,e5,e10,e11,hall,hK⟩;simp only at e0 e5 e10 e11 hK;rw [LB_run nd37 rfl];by_cases hk':k<ps.length
 · have c1:(k:Int)<ps.length:=by omega
   have gk:(ks.map iv)[k]?=some (iv (getK ks k)):=by
    have:=getK_some (l:=ks) (j:=k) (by omega) (by omega)
    rw [Int.toNat_natCast] at this;rw [List.getElem?_map,this]; rfl
   have gu:((us.map iv).map D.t)[k]?=some (.t (iv (getK us k))):=by
    have:=getK_some (l:=us) (j:=k) (by omega) (by omega)
    rw [Int.toNat_natCast] at this;rw [List.getElem?_map,List.getElem?_map,this]; rfl
   have oU:=hK.o;have lU:((us.map iv).map D.t).length=ps.length:=by simp [hus]
   generalize (us.map iv).map D.t=E at oU gu lU;have hstep:okAt37 ks us ps.length k=true→∀ j,j<k+1→okAt37 ks us ps.length j=true:=fun hk j hj=>by
    by_cases e:j=k
    · subst e; exact hk
    · exact hall j (by omega)
   have hbad:okAt37 ks us ps.length k=false→∃ k,k<ps.length∧okAt37 ks us ps.length k=false:=fun h=>⟨k,hk',h⟩
   have hB:okAt37 ks us ps.length k=(!eqI (getK ks k) 0&&(!decide (k<ps.length-1)||eqI (getK us k) 1)):=rfl
   generalize okAt37 ks us ps.length k=B at hstep hbad hB;generalize getK ks k=A at gk hB;generalize getK us k=U at gu hB
   cases a0:eqI A 0 with
   | true =>
    rw [a0] at hB;simp -implicitDefEqProofs (disch:=omega) [-List.getElem?_map,-List.map_map,-getElem?_pos,e0,e5,e10,e11,gk,a0,Wp_some];exact hbad hB
   | false =>
    rw [a0] at hB;by_cases hlt:k<ps.length-1
    · have c2:(k:Int)<(ps.length:Int)-1:=by omega
      have d2:decide (k<ps.length-1)=true:=by simpa using hlt
      rw [d2] at hB
      cases u1:eqI U 1 with
      | true =>
       rw [u1] at hB;simp -implicitDefEqProofs (disch:=omega) [-List.getElem?_map,-List.map_map,-getElem?_pos,e0,e5,e10,e11,gk,a0,oU,gu,lU,hk',u1,Wp_some];exact ⟨hstep hB,hK⟩
      | false =>
       rw [u1] at hB;simp -implicitDefEqProofs (disch:=omega) [-List.getElem?_map,-List.map_map,-getElem?_pos,e0,e5,e10,e11,gk,a0,oU,gu,lU,hk',u1,Wp_some];exact hbad hB
    · have c2:(ps.length:Int)-1≤(k:Int):=by omega
      have d2:decide (k<ps.length-1)=false:=by simpa using hlt
      rw [d2] at hB;simp -implicitDefEqProofs (disch:=omega) [-List.getElem?_map,-List.map_map,-getElem?_pos,e0,e5,e10,e11,gk,a0,Wp_some];exact ⟨hk',hstep hB,hK⟩
 · obtain rfl:k=ps.length:=by omega
   simp -implicitDefEqProofs (disch:=omega) [e0,e5,e10,e11,Wp_some];exact hall
theorem getK_kindsL {ps:List PT}{ds:List DV}{n k:Nat}{x:PT}(hk:k<n)(hx:ps[k]?=some x):getK (kindsL ps ds n) k=kdS x ds (getK (kindsL ps ds k)):=by
 unfold getK;rw [Int.toNat_natCast,kindsL_get hk,kindsL_at hx,List.getElem?_append_right (by rw [kindsL_len]; omega),kindsL_len]
 simp;rfl
theorem goodK_iff {ps:List PT}{ds:List DV}:∀ {n:Nat},n≤ps.length→(goodK ps ds n=true↔(∀ k x,k<n→ps[k]?=some x→sidesB x k=true)∧∀ k,k<n→getK (kindsL ps ds n) k≠0)
 | 0,_=>⟨fun _=>⟨fun k x h=>by omega,fun k h=>by omega⟩,fun _=>rfl⟩
 | n+1,hn=>by
  obtain ⟨x,hx⟩:∃ x,ps[n]?=some x:=⟨ps[n]'(by omega),List.getElem?_eq_getElem (by omega)⟩
  have ih:=goodK_iff (ps:=ps) (ds:=ds) (n:=n) (by omega)
  have hgk:∀ k,k<n→getK (kindsL ps ds (n+1)) k=getK (kindsL ps ds n) k:=fun k hk=>by
    unfold getK;rw [Int.toNat_natCast,kindsL_get (i:=n+1) (by omega),kindsL_get (i:=n) hk]
  constructor
  · intro h
    have hg:goodK ps ds n=true:=by
      simp only [goodK,Bool.and_eq_true] at h; exact h.1
    obtain ⟨h1,h2⟩:=ih.1 hg;rw [goodK_at hx hg] at h;simp only [Bool.and_eq_true,Bool.not_eq_true',decide_eq_false_iff_not] at h;refine ⟨fun k z hk hz=>?_,fun k hk=>?_⟩
    · by_cases e:k=n
      · subst e; rw [hx] at hz; cases hz; exact h.1
      · exact h1 k z (by omega) hz
    · by_cases e:k=n
      · subst e; rw [getK_kindsL (by omega) hx]; exact h.2
      · rw [hgk k (by omega)]; exact h2 k (by omega)
  · rintro ⟨h1,h2⟩
    have hg:goodK ps ds n=true:=ih.2 ⟨fun k z hk=>h1 k z (by omega),fun k hk=>by rw [←hgk k hk]; exact h2 k (by omega)⟩
    rw [goodK_at hx hg];simp only [Bool.and_eq_true,Bool.not_eq_true',decide_eq_false_iff_not];refine ⟨h1 n x (by omega) hx,?_⟩
    have:=h2 n (by omega)
    rwa [getK_kindsL (by omega) hx] at this
theorem sidesAll_iff {ps:List PT}:sidesAll ps↔∀ k x,k<ps.length→ps[k]?=some x→sidesB x k=true :=
 ⟨fun h k x _ hx=>h k x hx,fun h k x hx=>h k x (by
  rcases Nat.lt_or_ge k ps.length with h1|h1
  · exact h1
  · rw [List.getElem?_eq_none h1] at hx; cases hx) hx⟩
theorem ones_iff {u:List Int}{n:Nat}(hu:u.length=n):onesB (u.take (n-1))=true↔∀ k,k<n-1→getK u k=1:=by
 unfold onesB;rw [List.all_eq_true];constructor
 · intro h k hk
   have hg:=getK_some (l:=u) (j:=k) (by omega) (by omega)
   rw [Int.toNat_natCast] at hg;have hm:getK u k∈u.take (n-1):=by
    rw [List.mem_iff_getElem?];exact ⟨k,by rw [List.getElem?_take_of_lt hk]; exact hg⟩
   simpa using h _ hm
 · intro h v hv
   rw [List.mem_iff_getElem?] at hv;obtain ⟨k,hk⟩:=hv;have hlt:k<n-1:=by
    rcases Nat.lt_or_ge k (n-1) with h1|h1
    · exact h1
    · rw [List.getElem?_eq_none (by simp; omega)] at hk; cases hk
   rw [List.getElem?_take_of_lt hlt] at hk;have:=h k hlt;unfold getK at this;rw [Int.toNat_natCast,hk] at this;simpa using this
theorem kindS_ok {ps:List PT}{ds:List DV}(h0:0<ps.length)(hn:ps.length≤256)(hs:sidesAll ps)(hall:∀ k,k<ps.length→okAt37 (kindsL ps ds ps.length) (usedL ps ps.length) ps.length k=true):kindS ps ds=getK (kindsL ps ds ps.length) ((ps.length:Int)-1):=by
 unfold kindS;rw [if_neg (by omega)]
 have hg:goodK ps ds ps.length=true:=(goodK_iff (Nat.le_refl _)).2 ⟨sidesAll_iff.1 hs,fun k hk=>by
  have:=hall k hk;unfold okAt37 at this;simp at this;exact this.1⟩
 rw [if_neg (by rw [hg]; decide)]
 have ho:onesB ((usedL ps ps.length).take (ps.length-1))=true:=(ones_iff (usedL_len ps _)).2 fun k hk=>by
  have:=hall k (by omega)
  unfold okAt37 at this;simp at this;rcases this.2 with h|h
  · omega
  · exact h
 rw [if_neg (by rw [ho]; decide)]
theorem kindS_bad1 {ps:List PT}{ds:List DV}(h0:0<ps.length)(hn:ps.length≤256)(hs:¬ sidesAll ps):kindS ps ds=0:=by
 unfold kindS;rw [if_neg (by omega)]
 have hg:goodK ps ds ps.length=false:=by
  cases h:goodK ps ds ps.length with
  | false=>rfl
  | true=>exact absurd (sidesAll_iff.2 ((goodK_iff (Nat.le_refl _)).1 h).1) hs
 rw [if_pos hg]
theorem kindS_bad2 {ps:List PT}{ds:List DV}(h0:0<ps.length)(hn:ps.length≤256){k:Nat}(hk:k<ps.length)(hb:okAt37 (kindsL ps ds ps.length) (usedL ps ps.length) ps.length k=false):kindS ps ds=0:=by
 unfold kindS;rw [if_neg (by omega)]
 cases hg:goodK ps ds ps.length with
 | false=>rw [if_pos rfl]
 | true =>
  rw [if_neg (by decide)]
  have h2:=((goodK_iff (Nat.le_refl _)).1 hg).2 k hk
  cases ho:onesB ((usedL ps ps.length).take (ps.length-1)) with
  | false=>rw [if_pos rfl]
  | true =>
   exfalso;have h3:=(ones_iff (usedL_len ps _)).1 ho;unfold okAt37 at hb;simp at hb;have h4:=hb h2;exact h4.2 (h3 k h4.1)
theorem s37 {ps:List PT}{y:T}{ds:List DV}(hy:Slice y (ds.map decT))(hld:ds.length≤2000000)(h0:0<ps.length)(hln:ps.length≤256)(hps:∀ x∈ps,x.s.size≤1000000000) :
   ∃ h',call cx prim 37 [.t (.slice (ps.map prP)),.t y] .empty=some (.t (iv (kindS ps ds)),h'):=by
 rw [call_run (cx:=cx) rfl Tryz.func37 ok37 nd37 rfl (lbe rfl) rfl rfl];have mk:=fun h=>makeZ (n:=ps.length) h hln
 have e0:eqI (ps.length:Int) 0=false:=eqI_false (by omega)
 have h2:ltI 256 (ps.length:Int)=false:=ltI_false (by omega)
 simp -implicitDefEqProofs (disch:=omega) [-List.map_replicate,-List.map_map,mk,e0,h2];generalize hLp:loopω _ _=L;obtain ⟨x',⟨nn,env,h⟩,rfl,rfl,hq⟩:=l37_0 (ps:=ps) hln hLp rfl (by simp) (y:=y) (by simp) (by simp) (by simp) ⟨by simp [usedL],by simp [H.push,H.empty],rfl⟩
 clear hLp;rcases hq with ⟨rfl,hs,f0,f1,f5,hK⟩|⟨rfl,hs,f4⟩
 · simp only at f0 f1 f5 hK
   have q53:=fun h=>c53 (c:=37) hy hld h0 hln hps hs rfl h
   simp -implicitDefEqProofs (disch:=omega) [-List.map_map,f0,f1,f5,q53];generalize hLp:loopω _ _=L;obtain ⟨x',⟨nn,env,h⟩,rfl,rfl,hq⟩:=l37_4 (ps:=ps) (ks:=kindsL ps ds ps.length) (us:=usedL ps ps.length) hln h0 (kindsL_len ps ds _) (usedL_len ps _) hLp rfl (by simp [f0]) (by simp [f5]) (by simp) (by simp) hK
   clear hLp;rcases hq with ⟨rfl,hall,g0,g10⟩|⟨rfl,⟨k,hk,hb⟩,g4⟩
   · simp only at g0 g10
     rw [kindS_ok h0 hln hs hall];have hsub:(((ps.length:Int)-1).toNat)=ps.length-1:=by omega
     have gk:((kindsL ps ds ps.length).map iv)[ps.length-1]?=some (iv (getK (kindsL ps ds ps.length) ((ps.length:Int)-1))):=by
      have:=getK_some (l:=kindsL ps ds ps.length) (j:=(ps.length:Int)-1) (by omega) (by rw [kindsL_len]; omega)
      rw [hsub] at this;rw [List.getElem?_map,this]; rfl
     simp -implicitDefEqProofs (disch:=omega) [-List.map_map,-List.getElem?_map,-getElem?_pos,g0,g10,hsub,gk]
   · simp only at g4
     rw [kindS_bad2 h0 hln hk hb];simp -implicitDefEqProofs (disch:=omega) [g4]
 · simp only at f4
   rw [kindS_bad1 h0 hln hs];simp -implicitDefEqProofs (disch:=omega) [f4]
theorem c37 {ps:List PT}{ds:List DV}{l y:T}(hlp:Slice l (ps.map prP))(hy:Slice y (ds.map decT))(hl:ds.length≤2000000)(hps:∀ x∈ps,x.s.size≤1000000000)(hn:ps.length≤2000000){c:FuncId}(hm:md c 37 = .pure)(h:H) :
  callD (cx.at c) (call cx prim) 37 [.t l,.t y] h=some (.t (iv (kindS ps ds)),h):=by
 have:∃ h',call cx prim 37 [.t l,.t y] .empty=some (.t (iv (kindS ps ds)),h'):=by
  by_cases h0:ps.length=0∨256<ps.length
  · have e:kindS ps ds=0:=by unfold kindS; rw [if_pos h0]
    rw [e,call_run (cx:=cx) rfl Tryz.func37 ok37 nd37 rfl (lbe rfl) rfl rfl];have hlx:=fun hh=>hlp.len (P:=Tryz.prog) (t:=22) tk22 hh
    rw [List.length_map] at hlx;rcases h0 with h0|h0
    · have e0:(ps.length:Int)=0:=by omega
      simp -implicitDefEqProofs (disch:=omega) [hlx,e0]
    · have e0:eqI (ps.length:Int) 0=false:=eqI_false (by omega)
      have h2:ltI 256 (ps.length:Int)=true:=ltI_true (by omega)
      simp -implicitDefEqProofs (disch:=omega) [hlx,e0,h2]
  · have:l = .slice (ps.map prP):=hlp.eq_of_ne (fun e=>h0 (.inl (by simpa using e)))
    subst this;exact s37 hy hl (by omega) (by omega) hps
 obtain ⟨h',q⟩:=this;exact pureT cb37 hm q rfl rfl
theorem s15b {l vs:T}{vl:List WV}(hv:Slice vs (vl.map varW))(hs:smallW vl)(hb:varsB vl=false):∃ h',call cx prim 15 [.t l,.t vs] .empty=some (.tup [.t (vv 0 0 ⟨#[]⟩),.t (iv 2)],h'):=by
 rw [call_run (cx:=cx) rfl Tryz.func15 ok15 nd15 rfl (lbe rfl) rfl rfl];have q1:=fun h=>c34 (c:=15) (d:=.t vs) (x:=vs) h rfl hv hs rfl
 rw [hb] at q1;simp -implicitDefEqProofs (disch:=omega) [q1]
theorem s15k {l vs y:T}{vl:List WV}{K:Int}(hv:Slice vs (vl.map varW))(hs:smallW vl)(hb:varsB vl=true)(hy:∀ (c:FuncId)(h:H),md c 17 = .pure→callD (cx.at c) (call cx prim) 17 [.t vs] h=some (.t y,h))
  (hK:∀ h,callD (cx.at 15) (call cx prim) 26 [.t l,.t y] h=some (.t (iv K),h)) (h0:K=0):∃ h',call cx prim 15 [.t l,.t vs] .empty=some (.tup [.t (vv 0 0 ⟨#[]⟩),.t (iv 2)],h'):=by
 rw [call_run (cx:=cx) rfl Tryz.func15 ok15 nd15 rfl (lbe rfl) rfl rfl];have q1:=fun h=>c34 (c:=15) (d:=.t vs) (x:=vs) h rfl hv hs rfl
 have q2:=fun h=>hy 15 h rfl
 rw [hb] at q1;simp -implicitDefEqProofs (disch:=omega) [q1,q2,hK,h0]
theorem s15 {ps:List PT}{vs y:T}{vl:List WV}{K:Int}(hv:Slice vs (vl.map varW))(hs:smallW vl)(hb:varsB vl=true)(hy:∀ (c:FuncId)(h:H),md c 17 = .pure→callD (cx.at c) (call cx prim) 17 [.t vs] h=some (.t y,h))
  (hK:∀ h,callD (cx.at 15) (call cx prim) 26 [.t (.slice (ps.map prP)),.t y] h=some (.t (iv K),h)) (h0:K≠0) (hp:PartsOK ps vl) (hS:Sides ps) (hne:0<ps.length) (hln:ps.length≤1000000) :
  ∃ h',call cx prim 15 [.t (.slice (ps.map prP)),.t vs] .empty=some (.tup [.t (val3 (evF ps vl ps.length ((ps.length:Int)-1)).1),.t (iv (evF ps vl ps.length ((ps.length:Int)-1)).2)],h'):=by
 rw [call_run (cx:=cx) rfl Tryz.func15 ok15 nd15 rfl (lbe rfl) rfl rfl];have q1:=fun h=>c34 (c:=15) (d:=.t vs) (x:=vs) h rfl hv hs rfl
 have q2:=fun h=>hy 15 h rfl
 rw [hb] at q1;have e1:(((ps.length-1:Nat):Nat):Int)=(ps.length:Int)-1:=by omega
 have hof:=of_ok hv hs.1 hp hS ps.length (ps.length-1) (by omega) (by omega)
 rw [e1] at hof;have q3:=fun h=>c35 (c:=15) rfl hof h
 have e2:eqI K 0=false:=eqI_false h0;simp -implicitDefEqProofs (disch:=omega) [q1,q2,q3,hK,e2,hv.cells1]
theorem k19 (s:ByteArray)(ps:List T)(y vs:T)(hy:y.cells=[y])(hvs:vs.cells=[vs])(v:V3)(e:Int)(i j:Nat)(h:H)(hmk:h.marks=[])(hi:i<h.next)(hj:j<h.next)(h1:h.objs i=some (.row 32 1 [.t y]))(h2:h.objs j=some (.row 23 1 [.t vs]))
  (hP:∀ h,callD (cx.at 19) (call cx prim) 20 [.t (.str s),.t y] h=some (.tup [.t (.slice ps),.t (.int .i64 0),.t (.int .i64 0)],h))
  (hV:∀ h,callD (cx.at 19) (call cx prim) 15 [.t (.slice ps),.t vs] h=some (.tup [.t (val3 v),.t (iv e)],h)) :
  ∃ h',callD (cx.at 4) (call cx prim) 19 [.t (.str s),.ptr i 0 0 1,.ptr j 0 0 1] h=some (.tup [.t (iv v.2.1),.t (iv e)],h')∧Keeps h h':=by
 have:∃ h',call cx prim 19 [.t (.str s),.ptr i 0 0 1,.ptr j 0 0 1] h=some (.tup [.t (iv v.2.1),.t (iv e)],h')∧Keeps h h':=by
  rw [call_run (cx:=cx) rfl Tryz.func19 ok19 nd19 rfl (lbe rfl) rfl rfl];simp -implicitDefEqProofs (disch:=first|omega|simp [H.push,hmk]) [h1,h2,hP,hV,hy,hvs,hmk,push_setA,push_set,ne0 hi,ne0 hj,ne1 hi,ne1 hj]
  exact Keeps.push _ _
 obtain ⟨h',q,kp⟩:=this;exact ⟨h',keepT cb19 rfl q,kp⟩
abbrev nA:ByteArray:=⟨#[97]⟩
abbrev nB:ByteArray:=⟨#[98]⟩
abbrev abL (a b:Int):List WV:=[(nA,1,a,⟨#[]⟩),(nB,1,b,⟨#[]⟩)]
abbrev abT (a b:Int):T:=.slice [varW (nA,1,a,⟨#[]⟩),varW (nB,1,b,⟨#[]⟩)]
abbrev vQ (n:ByteArray)(at_:Int):PT:=⟨2,0,0,0,0,0,⟨#[]⟩,n,at_⟩
abbrev bQ (k a b at_:Int):PT:=⟨k,a,b,0,0,0,⟨#[]⟩,⟨#[]⟩,at_⟩
def ps3 (k:Int):List PT:=[vQ nA 0,vQ nB 4,bQ k 0 1 2]
def ps5:List PT:=[vQ nA 0,vQ nB 4,bQ 9 0 1 2,vQ nB 8,bQ 10 2 3 6]
end Go.Proofs.YtaldobgfbkllfaaGreatDoor

namespace Go.Proofs.YtaldobgfbkllfaaGreatDoor
open Vai
set_option maxHeartbeats 0
abbrev In64 (n:Int):Prop:=-9223372036854775808≤n∧n≤9223372036854775807
instance (n:Int):Decidable (In64 n):=inferInstanceAs (Decidable (_∧_))
theorem wrap_cong (n:Int):∃ q:Int,IntKind.i64.wrap n=n+18446744073709551616*q:=by
 have e:(2:Int) ^ (64:Nat)=18446744073709551616:=by decide
 have e':(2:Int) ^ (64-1:Nat)=9223372036854775808:=by decide
 simp only [IntKind.wrap,IntKind.bits,IntKind.signed,Bool.true_and,decide_eq_true_eq,e,e'];split
 · exact ⟨-(n/18446744073709551616)-1,by omega⟩
 · exact ⟨-(n/18446744073709551616),by omega⟩
theorem wrap_in {n:Int}(h:In64 n):IntKind.i64.wrap n=n:=wrap_i64 h.1 h.2
theorem add_exact {a b:Int}(ha:In64 a)(hb:In64 b):if In64 (a+b) then numV 9 a b=(a+b,true) else (numV 9 a b).2=false:=by
 split
 · rename_i h
   simp only [numV,wrap_in h,if_true];congr 1;by_cases h1:a<a+b
   · rw [ltI_true h1,ltI_true (by omega)]; rfl
   · rw [ltI_false (by omega),ltI_false (by omega)]; rfl
 · rename_i h
   simp only [numV,if_true];obtain ⟨q,hq⟩:=wrap_cong (a+b);have hr:=wrap_range (a+b);generalize IntKind.i64.wrap (a+b)=w at hq hr ⊢;simp only [In64] at h ha hb;by_cases h1:0<b
   · rw [ltI_true (a:=0) h1,ltI_false (by omega)]; rfl
   · rw [ltI_false (a:=0) (by omega),ltI_true (by omega)]; rfl
theorem sub_exact {a b:Int}(ha:In64 a)(hb:In64 b)(h:In64 (a-b)):numV 10 a b=(a-b,true):=by
 simp only [numV,wrap_in h];rw [if_neg (by decide),if_pos trivial]
 congr 1;by_cases h1:a-b<a
 · rw [ltI_true h1,ltI_true (by omega)]; rfl
 · rw [ltI_false (by omega),ltI_false (by omega)]; rfl
theorem natAbs_lt {r b:Int}(h:r.natAbs<b.natAbs)(hb:In64 b) : -9223372036854775808<r∧r<9223372036854775808:=by
 simp only [In64] at hb; omega
theorem mul_exact {a b:Int}(ha:In64 a)(hb:In64 b):if In64 (a*b) then numV 6 a b=(a*b,true) else (numV 6 a b).2=false:=by
 have e:numV 6 a b=mulV a b:=rfl;rw [e];unfold mulV;split
 · rename_i h
   by_cases hz:a=0∨b=0
   · rw [if_pos hz]
     rcases hz with rfl|rfl<;>simp
   · rw [if_neg hz]
     have hb0:b≠0:=fun h=>hz (.inr h)
     rw [wrap_in h,Int.mul_tdiv_cancel _ hb0,wrap_in ha,eqI_self];congr 1;cases h1:eqI a (-1)<;>cases h2:eqI b minI<;>cases h3:eqI b (-1)<;>cases h4:eqI a minI<;>simp only [eqI,decide_eq_true_eq,decide_eq_false_iff_not] at h1 h2 h3 h4<;>first|rfl|(exfalso; rw [h1,h2] at h; exact absurd h.2 (by decide))|(exfalso; rw [h3,h4] at h; exact absurd h.2 (by decide))
 · rename_i h
   have hz:¬ (a=0∨b=0):=by
     rintro (rfl|rfl)
     · simp [In64] at h
     · simp [In64] at h
   rw [if_neg hz];have hb0:b≠0:=fun h=>hz (.inr h)
   cases hB:((eqI (IntKind.i64.wrap ((IntKind.i64.wrap (a*b)).tdiv b)) a && !(eqI a (-1)&&eqI b minI)) && !(eqI b (-1)&&eqI a minI)) with
   | false=>rfl
   | true =>
     exfalso;simp only [Bool.and_eq_true,Bool.not_eq_true',Bool.and_eq_false_iff,eqI,decide_eq_true_eq,decide_eq_false_iff_not] at hB;obtain ⟨⟨h1,h2⟩,h3⟩:=hB;obtain ⟨q,hq⟩:=wrap_cong (a*b);have hr:=wrap_range (a*b);generalize IntKind.i64.wrap (a*b)=c at h1 hq hr;by_cases hmin:c = -9223372036854775808∧b = -1
     · obtain ⟨rfl,rfl⟩:=hmin
       have e1:IntKind.i64.wrap (Int.tdiv (-9223372036854775808) (-1)) = -9223372036854775808:=by decide
       rw [e1] at h1;subst h1;rcases h3 with h3|h3
       · exact h3 rfl
       · exact h3 rfl
     · have ht:In64 (c.tdiv b):=by
         have h5:(c.tdiv b).natAbs≤c.natAbs:=by
           rw [Int.natAbs_tdiv]; exact Nat.div_le_self _ _
         simp only [In64] at *;by_cases h6:c.tdiv b=9223372036854775808
         · exfalso
           have h7:c = -9223372036854775808:=by omega
           have h8:=Int.mul_tdiv_add_tmod c b;rw [h6] at h8;have h9:(c.tmod b).natAbs<b.natAbs:=by
            rw [Int.natAbs_tmod]; exact Nat.mod_lt _ (by omega)
           have h10:b = -1:=by omega
           exact hmin ⟨h7,h10⟩
         · omega
       rw [wrap_in ht] at h1;have h8:=Int.mul_tdiv_add_tmod c b;rw [h1] at h8;have h9:(c.tmod b).natAbs<b.natAbs:=by
         rw [Int.natAbs_tmod]; exact Nat.mod_lt _ (by omega)
       have h10:=natAbs_lt h9 hb;have h11:b*a=a*b:=Int.mul_comm _ _;rw [h11] at h8;generalize a*b=m at *;simp only [In64] at h;omega
end Go.Proofs.YtaldobgfbkllfaaGreatDoor

namespace Go.Proofs.YtaldobgfbkllfaaGreatDoor
open Vai
variable [Gl]
set_option maxHeartbeats 0
set_option maxRecDepth 100000
theorem wrap_u64m (n:Int):IntKind.u64.wrap n=n%18446744073709551616:=by
 have e:(2:Int) ^ (64:Nat)=18446744073709551616:=by decide
 simp only [IntKind.wrap,IntKind.bits,IntKind.signed,Bool.false_and,e];simp
abbrev uv (n:Int):T:=.int .u64 n
theorem c151 {c:FuncId}{n:Int}(hn:In64 n)(h:H)(hm:md c 151 = .pure):callD (cx.at c) (call cx prim) 151 [.t (iv n)] h=some (.t (uv n.natAbs),h):=by
 have:∃ h',call cx prim 151 [.t (iv n)] .empty=some (.t (uv n.natAbs),h'):=by
  rw [call_run (cx:=cx) rfl Tryz.func151 ok151 nd151 rfl (lbe rfl) rfl rfl];simp only [In64] at hn;by_cases h0:n<0
  · have e1:IntKind.u64.wrap (0-IntKind.u64.wrap n)=(n.natAbs:Int):=by
     rw [wrap_u64m,wrap_u64m]; omega
    simp only [Int.zero_sub] at e1;simp -implicitDefEqProofs (disch:=omega) [h0,e1]
  · have e1:IntKind.u64.wrap n=(n.natAbs:Int):=by rw [wrap_u64m]; omega
    simp -implicitDefEqProofs (disch:=omega) [h0,e1]
 obtain ⟨h',q⟩:=this;exact pureT cb151 hm q rfl rfl
theorem c152n {c:FuncId}{u:Int}(h0:0≤u)(h1:u<18446744073709551616)(h:H)(hm:md c 152 = .pure):∃ w,callD (cx.at c) (call cx prim) 152 [.t (uv u),.t (.bool true)] h=some (.tup [.t (iv w),.t (.bool (leI u 9223372036854775808))],h)∧(u≤9223372036854775808→w = -u):=by
 have:∃ h',call cx prim 152 [.t (uv u),.t (.bool true)] .empty=some (.tup [.t (iv (IntKind.i64.wrap (IntKind.u64.wrap (0-u)))),.t (.bool (leI u 9223372036854775808))],h'):=by
  rw [call_run (cx:=cx) rfl Tryz.func152 ok152 nd152 rfl (lbe rfl) rfl rfl];simp -implicitDefEqProofs (disch:=omega) []
 obtain ⟨h',q⟩:=this;refine ⟨_,pureT cb152 hm q rfl rfl,fun hu=>?_⟩
 rw [wrap_u64m];obtain ⟨q,hq⟩:=wrap_cong ((0-u)%18446744073709551616);have:=wrap_range ((0-u)%18446744073709551616);omega
theorem c152p {c:FuncId}{u:Int}(h0:0≤u)(h1:u<18446744073709551616)(h:H)(hm:md c 152 = .pure):∃ w,callD (cx.at c) (call cx prim) 152 [.t (uv u),.t (.bool false)] h=some (.tup [.t (iv w),.t (.bool (leI u 9223372036854775807))],h)∧(u≤9223372036854775807→w=u):=by
 have:∃ h',call cx prim 152 [.t (uv u),.t (.bool false)] .empty=some (.tup [.t (iv (IntKind.i64.wrap u)),.t (.bool (leI u 9223372036854775807))],h'):=by
  rw [call_run (cx:=cx) rfl Tryz.func152 ok152 nd152 rfl (lbe rfl) rfl rfl];simp -implicitDefEqProofs (disch:=omega) []
 obtain ⟨h',q⟩:=this;refine ⟨_,pureT cb152 hm q rfl rfl,fun hu=>?_⟩
 exact wrap_i64 (by omega) hu
theorem c110 {c:FuncId}(n:Int)(b:Bool)(h:H)(hm:md c 110 = .pure):callD (cx.at c) (call cx prim) 110 [.t (iv n),.t (.bool b)] h=some (.tup [.t (if b then vv 1 n ⟨#[]⟩ else vv 0 0 ⟨#[]⟩),.t (iv (if b then 0 else 141))],h):=by
 have:∃ h',call cx prim 110 [.t (iv n),.t (.bool b)] .empty=some (.tup [.t (if b then vv 1 n ⟨#[]⟩ else vv 0 0 ⟨#[]⟩),.t (iv (if b then 0 else 141))],h'):=by
  rw [call_run (cx:=cx) rfl Tryz.func110 ok110 nd110 rfl (lbe rfl) rfl rfl];cases b<;>simp -implicitDefEqProofs (disch:=omega) []
 obtain ⟨h',q⟩:=this;exact pureT cb110 hm q (by cases b<;>rfl) rfl
theorem c68 {c:FuncId}(b:Bool)(h:H)(hm:md c 68 = .pure):callD (cx.at c) (call cx prim) 68 [.t (.bool b)] h=some (.t (vv 2 (if b then 1 else 0) ⟨#[]⟩),h):=by
 have:∃ h',call cx prim 68 [.t (.bool b)] .empty=some (.t (vv 2 (if b then 1 else 0) ⟨#[]⟩),h'):=by
  rw [call_run (cx:=cx) rfl Tryz.func68 ok68 nd68 rfl (lbe rfl) rfl rfl];cases b<;>simp -implicitDefEqProofs (disch:=omega) []
 obtain ⟨h',q⟩:=this;exact pureT cb68 hm q rfl rfl
def lessV (x y:V3):Bool:=if x.1=3 then lessS x.2.2 y.2.2 else ltI x.2.1 y.2.1
theorem c115 {c:FuncId}(x y:V3)(h:H)(hm:md c 115 = .pure):callD (cx.at c) (call cx prim) 115 [.t (val3 x),.t (val3 y)] h=some (.t (.bool (lessV x y)),h):=by
 have:∃ h',call cx prim 115 [.t (val3 x),.t (val3 y)] .empty=some (.t (.bool (lessV x y)),h'):=by
  rw [call_run (cx:=cx) rfl Tryz.func115 ok115 nd115 rfl (lbe rfl) rfl rfl];unfold lessV lessS
  cases e:eqI x.1 3 with
  | true =>
   have:x.1=3:=by simpa [eqI] using e
   simp -implicitDefEqProofs (disch:=omega) [this]
  | false =>
   have:¬ x.1=3:=by simpa [eqI] using e
   simp -implicitDefEqProofs (disch:=omega) [this]
 obtain ⟨h',q⟩:=this;exact pureT cb115 hm q rfl rfl
theorem c111 {c:FuncId}{a b:Int}(ha:In64 a)(hb:In64 b)(h:H)(hm:md c 111 = .pure):∃ w,callD (cx.at c) (call cx prim) 111 [.t (iv a),.t (iv b)] h=some (.tup [.t (iv w),.t (.bool (decide (In64 (a+b))))],h)∧(In64 (a+b)→w=a+b):=by
 have:∃ w h',call cx prim 111 [.t (iv a),.t (iv b)] .empty=some (.tup [.t (iv w),.t (.bool (decide (In64 (a+b))))],h')∧(In64 (a+b)→w=a+b):=by
  rw [call_run (cx:=cx) rfl Tryz.func111 ok111 nd111 rfl (lbe rfl) rfl rfl];have q1:=fun h=>c151 (c:=111) ha h rfl
  have q2:=fun h=>c151 (c:=111) hb h rfl
  have ha':=ha;have hb':=hb;simp only [In64] at ha' hb';by_cases h1:a<0
  · by_cases h2:b<0
    · have e1:IntKind.u64.wrap ((a.natAbs:Int)+b.natAbs)=if a = -9223372036854775808∧b = -9223372036854775808 then 0 else (a.natAbs:Int)+b.natAbs:=by
        rw [wrap_u64m]; split<;>omega
      by_cases hx:a = -9223372036854775808∧b = -9223372036854775808
      · rw [if_pos hx] at e1
        have e2:ltI 0 (a.natAbs:Int)=true:=ltI_true (by omega)
        have e3:¬ In64 (a+b):=by simp only [In64]; omega
        have e4:decide (In64 (a+b))=false:=decide_eq_false e3;rw [e4];simp -implicitDefEqProofs (disch:=omega) [h1,h2,q1,q2,e1,e2];exact fun h1 h2=>absurd ⟨h1,h2⟩ e3
      · rw [if_neg hx] at e1
        have e2:ltI ((a.natAbs:Int)+b.natAbs) (a.natAbs:Int)=false:=ltI_false (by omega)
        obtain ⟨w,q3,hw⟩:=c152n (c:=111) (u:=(a.natAbs:Int)+b.natAbs) (by omega) (by omega) .empty rfl
        have e4:decide (In64 (a+b))=leI ((a.natAbs:Int)+b.natAbs) 9223372036854775808:=by
         unfold leI; apply decide_eq_decide.2; simp only [In64]; omega
        rw [e4];simp -implicitDefEqProofs (disch:=omega) [h1,h2,q1,q2,e1,e2,q3];intro hi1 hi2;rw [hw (by omega)]; omega
    · have e4:decide (In64 (a+b))=true:=decide_eq_true (by simp only [In64]; omega)
      rw [e4];have e5:=wrap_in (n:=a+b) (by simp only [In64]; omega)
      simp -implicitDefEqProofs (disch:=omega) [h1,h2,e5]
  · by_cases h2:b<0
    · have e4:decide (In64 (a+b))=true:=decide_eq_true (by simp only [In64]; omega)
      rw [e4];have e5:=wrap_in (n:=a+b) (by simp only [In64]; omega)
      simp -implicitDefEqProofs (disch:=omega) [h1,h2,e5]
    · have e1:IntKind.u64.wrap ((a.natAbs:Int)+b.natAbs)=(a.natAbs:Int)+b.natAbs:=by
        rw [wrap_u64m]; omega
      have e2:ltI ((a.natAbs:Int)+b.natAbs) (a.natAbs:Int)=false:=ltI_false (by omega)
      obtain ⟨w,q3,hw⟩:=c152p (c:=111) (u:=(a.natAbs:Int)+b.natAbs) (by omega) (by omega) .empty rfl
      have e4:decide (In64 (a+b))=leI ((a.natAbs:Int)+b.natAbs) 9223372036854775807:=by
        unfold leI; apply decide_eq_decide.2; simp only [In64]; omega
      rw [e4];simp -implicitDefEqProofs (disch:=omega) [h1,h2,q1,q2,e1,e2,q3];intro hi1 hi2;rw [hw (by omega)]; omega
 obtain ⟨w,h',q,hw⟩:=this;exact ⟨w,pureT cb111 hm q rfl rfl,hw⟩
theorem c113 {c:FuncId}{a b:Int}(ha:In64 a)(hb:In64 b)(hb0:b≠0)(h:H)(hm:md c 113 = .pure):∃ w,callD (cx.at c) (call cx prim) 113 [.t (iv a),.t (iv b)] h=some (.tup [.t (iv w),.t (.bool (decide (In64 (a.tdiv b))))],h)∧(In64 (a.tdiv b)→w=a.tdiv b):=by
 have:∃ w h',call cx prim 113 [.t (iv a),.t (iv b)] .empty=some (.tup [.t (iv w),.t (.bool (decide (In64 (a.tdiv b))))],h')∧(In64 (a.tdiv b)→w=a.tdiv b):=by
  rw [call_run (cx:=cx) rfl Tryz.func113 ok113 nd113 rfl (lbe rfl) rfl rfl];have q1:=fun h=>c151 (c:=113) ha h rfl
  have q2:=fun h=>c151 (c:=113) hb h rfl
  have ha':=ha;have hb':=hb;simp only [In64] at ha' hb';have hq:((a.natAbs:Int).tdiv (b.natAbs:Int))=((a.natAbs/b.natAbs:Nat):Int):=by
    rw [Int.ofNat_tdiv]
  have hle:a.natAbs/b.natAbs≤a.natAbs:=Nat.div_le_self _ _;have hw0:IntKind.u64.wrap ((a.natAbs/b.natAbs:Nat):Int)=((a.natAbs/b.natAbs:Nat):Int):=wrap_u64 (Int.natCast_nonneg _) (by have:((a.natAbs/b.natAbs:Nat):Int)≤(a.natAbs:Int):=Int.ofNat_le.2 hle; omega)
  have hsgn:a.tdiv b=if (a<0)=(b<0) then ((a.natAbs/b.natAbs:Nat):Int) else -((a.natAbs/b.natAbs:Nat):Int):=by
    rcases Int.le_total 0 a with h1|h1<;>rcases Int.le_total 0 b with h2|h2
    · obtain ⟨m,rfl⟩:=Int.eq_ofNat_of_zero_le h1
      obtain ⟨n,rfl⟩:=Int.eq_ofNat_of_zero_le h2;rw [if_pos (by simp only [eq_iff_iff]; omega)]
      simp
    · obtain ⟨m,rfl⟩:=Int.eq_ofNat_of_zero_le h1
      obtain ⟨n,hn⟩:=Int.eq_ofNat_of_zero_le (a:=-b) (by omega)
      have:b = -(n:Int):=by omega
      subst this;rw [if_neg (by simp only [eq_iff_iff]; omega),Int.tdiv_neg]
      simp
    · obtain ⟨m,hm⟩:=Int.eq_ofNat_of_zero_le (a:=-a) (by omega)
      have:a = -(m:Int):=by omega
      subst this;obtain ⟨n,rfl⟩:=Int.eq_ofNat_of_zero_le h2;rw [Int.neg_tdiv];by_cases hm0:m=0
      · subst hm0; simp
      · rw [if_neg (by simp only [eq_iff_iff]; omega)]
        simp
    · obtain ⟨m,hm⟩:=Int.eq_ofNat_of_zero_le (a:=-a) (by omega)
      have:a = -(m:Int):=by omega
      subst this;obtain ⟨n,hn⟩:=Int.eq_ofNat_of_zero_le (a:=-b) (by omega)
      have:b = -(n:Int):=by omega
      subst this;rw [Int.neg_tdiv,Int.tdiv_neg];by_cases hm0:m=0
      · subst hm0; simp
      · rw [if_pos (by simp only [eq_iff_iff]; omega)]
        simp
  have hbn:¬ ((b.natAbs:Int)=0):=by omega
  generalize a.natAbs/b.natAbs=U at *;by_cases h1:a<0<;>by_cases h2:b<0
  · rw [if_pos (by simp only [eq_iff_iff]; omega)] at hsgn
    obtain ⟨w,q3,hw⟩:=c152p (c:=113) (u:=(U:Int)) (by omega) (by omega) .empty rfl
    have e4:decide (In64 (a.tdiv b))=leI (U:Int) 9223372036854775807:=by
      unfold leI; apply decide_eq_decide.2; rw [hsgn]; simp only [In64]; omega
    rw [e4,hsgn];simp -implicitDefEqProofs (disch:=first|assumption|omega) [h1,h2,q1,q2,q3,hq,hw0]
    intros
    exact hw (by omega)
  · rw [if_neg (by simp only [eq_iff_iff]; omega)] at hsgn
    obtain ⟨w,q3,hw⟩:=c152n (c:=113) (u:=(U:Int)) (by omega) (by omega) .empty rfl
    have e4:decide (In64 (a.tdiv b))=leI (U:Int) 9223372036854775808:=by
      unfold leI; apply decide_eq_decide.2; rw [hsgn]; simp only [In64]; omega
    rw [e4,hsgn];simp -implicitDefEqProofs (disch:=first|assumption|omega) [h1,h2,q1,q2,q3,hq,hw0]
    intros
    exact hw (by omega)
  · rw [if_neg (by simp only [eq_iff_iff]; omega)] at hsgn
    obtain ⟨w,q3,hw⟩:=c152n (c:=113) (u:=(U:Int)) (by omega) (by omega) .empty rfl
    have e4:decide (In64 (a.tdiv b))=leI (U:Int) 9223372036854775808:=by
      unfold leI; apply decide_eq_decide.2; rw [hsgn]; simp only [In64]; omega
    rw [e4,hsgn];simp -implicitDefEqProofs (disch:=first|assumption|omega) [h1,h2,q1,q2,q3,hq,hw0]
    intros
    exact hw (by omega)
  · rw [if_pos (by simp only [eq_iff_iff]; omega)] at hsgn
    obtain ⟨w,q3,hw⟩:=c152p (c:=113) (u:=(U:Int)) (by omega) (by omega) .empty rfl
    have e4:decide (In64 (a.tdiv b))=leI (U:Int) 9223372036854775807:=by
      unfold leI; apply decide_eq_decide.2; rw [hsgn]; simp only [In64]; omega
    rw [e4,hsgn];simp -implicitDefEqProofs (disch:=first|assumption|omega) [h1,h2,q1,q2,q3,hq,hw0]
    intros
    exact hw (by omega)
 obtain ⟨w,h',q,hw⟩:=this;exact ⟨w,pureT cb113 hm q rfl rfl,hw⟩
theorem c114 {c:FuncId}{a b:Int}(ha:In64 a)(hb:In64 b)(hb0:b≠0)(h:H)(hm:md c 114 = .pure):callD (cx.at c) (call cx prim) 114 [.t (iv a),.t (iv b)] h=some (.t (iv (a.tmod b)),h):=by
 have:∃ h',call cx prim 114 [.t (iv a),.t (iv b)] .empty=some (.t (iv (a.tmod b)),h'):=by
  rw [call_run (cx:=cx) rfl Tryz.func114 ok114 nd114 rfl (lbe rfl) rfl rfl];have q1:=fun h=>c151 (c:=114) ha h rfl
  have q2:=fun h=>c151 (c:=114) hb h rfl
  have ha':=ha;have hb':=hb;simp only [In64] at ha' hb';have hq:((a.natAbs:Int).tmod (b.natAbs:Int))=((a.natAbs%b.natAbs:Nat):Int):=by
    rw [Int.ofNat_tmod]
  have hlt:a.natAbs%b.natAbs<b.natAbs:=Nat.mod_lt _ (by omega)
  have hle:a.natAbs%b.natAbs≤a.natAbs:=Nat.mod_le _ _;have hsgn:a.tmod b=if a<0 then -((a.natAbs%b.natAbs:Nat):Int) else ((a.natAbs%b.natAbs:Nat):Int):=by
    have e:(a.tmod b).natAbs=a.natAbs%b.natAbs:=Int.natAbs_tmod _ _;split
    · have:=Int.tmod_nonneg (a:=-a) b (by omega)
      rw [Int.neg_tmod] at this;omega
    · have:=Int.tmod_nonneg (a:=a) b (by omega)
      omega
  have hbn:¬ ((b.natAbs:Int)=0):=by omega
  generalize a.natAbs%b.natAbs=U at *;by_cases h1:a<0
  · rw [if_pos h1] at hsgn
    obtain ⟨w,q3,hw⟩:=c152n (c:=114) (u:=(U:Int)) (by omega) (by omega) .empty rfl
    rw [hsgn];have:=hw (by omega)
    subst this;simp -implicitDefEqProofs (disch:=first|assumption|omega) [h1,q1,q2,q3,hq]
  · rw [if_neg h1] at hsgn
    obtain ⟨w,q3,hw⟩:=c152p (c:=114) (u:=(U:Int)) (by omega) (by omega) .empty rfl
    rw [hsgn];have:=hw (by omega)
    subst this;simp -implicitDefEqProofs (disch:=first|assumption|omega) [h1,q1,q2,q3,hq]
 obtain ⟨h',q⟩:=this;exact pureT cb114 hm q rfl rfl
def prodI (x y:Nat)(j:Nat):Nat:=x*(y/2 ^ (64-j))
theorem prod_step {x y j:Nat}(hj:j<64):prodI x y (j+1)=2*prodI x y j+(if y/2 ^ (63-j)%2=1 then x else 0):=by
 unfold prodI;have e:2 ^ (64-j)=2 ^ (63-j)*2:=by rw [←Nat.pow_succ]; congr 1; omega
 have e2:64-(j+1)=63-j:=by omega
 rw [e2,e,←Nat.div_div_eq_div_mul];generalize y/2 ^ (63-j)=q;have h:=Nat.div_add_mod q 2;split
 · rename_i h1
   rw [h1] at h;have:x*q=x*(2*(q/2)+1):=by rw [h]
   rw [this,Nat.mul_add,Nat.mul_one,Nat.mul_left_comm]
 · have h1:q%2=0:=by omega
   rw [h1] at h;have:x*q=x*(2*(q/2)+0):=by rw [h]
   rw [this,Nat.add_zero,Nat.mul_left_comm,Nat.add_zero]
theorem prod_le (x y j:Nat):prodI x y j≤x*y:=Nat.mul_le_mul_left _ (Nat.div_le_self _ _)
theorem prod_next {x y j:Nat}(hj:j<64):prodI x y (j+1)≤x*y:=prod_le _ _ _
theorem prod0 {x y:Nat}(hy:y<2 ^ 64):prodI x y 0=0:=by
 unfold prodI;rw [Nat.sub_zero,Nat.div_eq_of_lt hy,Nat.mul_zero]
theorem prod64 (x y:Nat):prodI x y 64=x*y:=by simp [prodI]
theorem l112 {x y:Nat}(hx:x≤9223372036854775808)(hy:y≤9223372036854775808){st:St}{r:CR}(hLp:loopω (LB cx prim 112 Tryz.f112 0) st=r)
   (en:st.n=55) (e7:st.env 7 = .t (uv x)) (e8:st.env 8 = .t (uv y)) (e9:st.env 9 = .t (uv 0)) (e10:st.env 10 = .t (.int .i64 63)) {d6:D} (e6:st.env 6=d6) :
   ∃ x' st',r=some (x',st')∧st'.n=55∧((x' = .exit 0∧st'.env 9 = .t (uv ((x*y:Nat):Int))∧x*y<18446744073709551616∧st'.env 6=d6)∨(x' = .ret∧st'.env 4 = .t (iv 0)∧st'.env 5 = .t (.bool false)∧9223372036854775808<x*y)):=by
 refine loop_uses hLp 64
   (fun j s=>s.n=55∧s.env 7 = .t (uv x)∧s.env 8 = .t (uv y)∧s.env 9 = .t (uv (prodI x y j))∧prodI x y j<18446744073709551616∧s.env 10 = .t (.int .i64 (63-(j:Int)))∧s.env 6=d6)
   (fun x' st'=>st'.n=55∧((x' = .exit 0∧st'.env 9 = .t (uv ((x*y:Nat):Int))∧x*y<18446744073709551616∧st'.env 6=d6)∨(x' = .ret∧st'.env 4 = .t (iv 0)∧st'.env 5 = .t (.bool false)∧9223372036854775808<x*y)))
   ⟨en,e7,e8,by rw [prod0 (by omega)]; exact e9,by rw [prod0 (by omega)]; omega,by simpa using e10,e6⟩ ?_
 clear hLp en e7 e8 e9 e10 e6 st;rintro j ⟨nn,env,h⟩ hj ⟨rfl,e7,e8,e9,hlt,e10,e6⟩;simp only at e7 e8 e9 e10 e6;rw [LB_run nd112 rfl];by_cases hj':j<64
 · have hs:=prod_step (x:=x) (y:=y) hj'
   have hn:=prod_next (x:=x) (y:=y) hj';have hle:=prod_le x y j;have h63:(0:Int)≤63-(j:Int):=by omega
   have hcv:IntKind.u64.wrap (63-(j:Int))=63-(j:Int):=wrap_u64 h63 (by omega)
   have hbit:((y:Int).fdiv (2 ^ (63-j)))=((y/2 ^ (63-j):Nat):Int):=by
     rw [fdiv_pos' (Int.le_of_lt (show (0:Int)<2 ^ (63-j) from Int.pow_pos (by decide)))]
     simp
   have hmod:(((y/2 ^ (63-j):Nat):Int)).tmod 2=((y/2 ^ (63-j)%2:Nat):Int):=by
     rw [show (2:Int)=((2:Nat):Int) from rfl,Int.ofNat_tmod]
   generalize prodI x y j=S at *;generalize prodI x y (j+1)=S' at *;have hm2:y/2 ^ (63-j)%2=0∨y/2 ^ (63-j)%2=1:=by omega
   generalize y/2 ^ (63-j)%2=bit at *;generalize y/2 ^ (63-j)=Y at *;have hconv:∀ h,convD Tryz.prog h 3 146 (.t (.int .i64 (63-(j:Int))))=some (.t (.int .u64 (63-(j:Int)))):=fun h=>by
     simp -implicitDefEqProofs (disch:=omega) [hcv]
   have hjnn:¬ (63-(j:Int))<0:=by omega
   have hstp:(63-(j:Int))-1=63-((j+1:Nat):Int):=by omega
   have hw64:IntKind.i64.wrap (63-((j+1:Nat):Int))=63-((j+1:Nat):Int):=wrap_i64 (by omega) (by omega)
   by_cases h1:9223372036854775809≤S
   · have g1:leI 9223372036854775809 (S:Int)=true:=leI_true (by omega)
     simp -implicitDefEqProofs (disch:=omega) [e9,e10,g1,h63,Wp_some];omega
   have g1:leI 9223372036854775809 (S:Int)=false:=leI_false (by omega)
   by_cases h2:S=9223372036854775808
   · have g2:ltI 0 (S:Int)=true:=ltI_true (by omega)
     have w2:IntKind.u64.wrap ((S:Int)*2)=0:=by rw [wrap_u64m]; omega
     simp -implicitDefEqProofs (disch:=omega) [e9,e10,g1,g2,w2,h63,Wp_some];omega
   have w2:IntKind.u64.wrap ((S:Int)*2)=(S:Int)*2:=by rw [wrap_u64m]; omega
   have g3:ltI ((S:Int)*2) (S:Int)=false:=ltI_false (by omega)
   rcases hm2 with hb|hb
   · subst hb
     rw [if_neg (by decide)] at hs
     have e5:((S':Nat):Int)=(S:Int)*2:=by omega
     cases g2:ltI 0 (S:Int) <;>
     simp -implicitDefEqProofs (disch:=omega) [e7,e8,e9,e10,e6,g1,g2,w2,g3,h63,hconv,hjnn,hbit,hmod,hstp,hw64,e5,Wp_some]<;>omega
   · subst hb
     rw [if_pos rfl] at hs;by_cases h4:18446744073709551616≤2*S+x
     · have w4:IntKind.u64.wrap ((S:Int)*2+x)=(S:Int)*2+x-18446744073709551616:=by rw [wrap_u64m]; omega
       have g4:ltI ((S:Int)*2+x-18446744073709551616) ((S:Int)*2)=true:=ltI_true (by omega)
       cases g2:ltI 0 (S:Int) <;>
       simp -implicitDefEqProofs (disch:=omega) [e7,e8,e9,e10,e6,g1,g2,w2,g3,h63,hconv,hjnn,hbit,hmod,w4,g4,Wp_some]<;>omega
     · have w4:IntKind.u64.wrap ((S:Int)*2+x)=(S:Int)*2+x:=by rw [wrap_u64m]; omega
       have g4:ltI ((S:Int)*2+x) ((S:Int)*2)=false:=ltI_false (by omega)
       have e5:((S':Nat):Int)=(S:Int)*2+x:=by omega
       cases g2:ltI 0 (S:Int) <;>
       simp -implicitDefEqProofs (disch:=omega) [e7,e8,e9,e10,e6,g1,g2,w2,g3,h63,hconv,hjnn,hbit,hmod,w4,g4,hstp,hw64,e5,Wp_some]<;>omega
 · obtain rfl:j=64:=by omega
   rw [prod64] at e9 hlt;simp -implicitDefEqProofs (disch:=omega) [e10,e9,e6,Wp_some];exact hlt
end Go.Proofs.YtaldobgfbkllfaaGreatDoor
