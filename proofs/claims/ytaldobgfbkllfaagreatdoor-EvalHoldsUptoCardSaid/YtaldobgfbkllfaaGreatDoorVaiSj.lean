import Derived.Test.YtaldobgfbkllfaaGreatDoorVaiSi
import Derived.Test.YtaldobgfbkllfaaGreatDoorVaiSa
set_option linter.unusedSimpArgs false
set_option linter.unusedVariables false
set_option linter.unusedSectionVars false
namespace Go.Proofs.YtaldobgfbkllfaaGreatDoor
open Vai
variable [Gl]
set_option maxHeartbeats 0
set_option maxRecDepth 100000
def fltT (a w:Int):T:=.agg [.int .i64 a,.int .i64 w]
def flt (a w:Int):AObj:=.row 64 2 [.t (.agg [.int .i64 a,.int .i64 w])]
theorem nrow_objs {h:H}{bt:TypeId}{k L:Nat}{xs:List T}(hL:L<h.next):(nrow bt k xs h).2.objs L=h.objs L:=by
 unfold nrow;split
 · rfl
 · simp only [push_objs,upd_ne _ _ (show L≠h.next by omega)]
section
variable {h:H}{K:Nat}{a w:Int}(ho:h.objs K=some (flt a w))
include ho
theorem fl_els:h.els K 1=some (64,2,[.t (.agg [.int .i64 a,.int .i64 w])]):=by simp [H.els,ho,flt]
theorem fl_ld:loadD Tryz.prog h 64 (.ptr K 0 0 1)=some (.t (.agg [.int .i64 a,.int .i64 w])):=by simp [-H.els,loadD,fl_els ho,partD]
theorem fl_f1:fieldAddrD Tryz.prog h 64 (.ptr K 0 0 1) 1=some (.ptr K 0 1 1):=by simp [-H.els,fieldAddrD,fl_els ho]
theorem fl_l1:loadD Tryz.prog h 3 (.ptr K 0 1 1)=some (.t (.int .i64 w)):=by simp [-H.els,loadD,fl_els ho,partD]
theorem fl_st (a' w':Int):storeD Tryz.prog h 64 (.ptr K 0 0 1) (.t (.agg [.int .i64 a',.int .i64 w']))=some (h.set K (flt a' w')):=by
 have hm:h.mays K [D.t (.int .i64 a'),D.t (.int .i64 w')]=true:=mays_trees h K [.int .i64 a',.int .i64 w'];simp [-H.els,-H.mays,storeD,fl_els ho,hm,flt]
end
theorem l89 {hB:H}{K:Nat}{s:ByteArray}{fr:Nat}(hK:K<hB.next)(hs:s.size≤100000)(hfr:fr<s.size)(hok:hB.objs K=some (flt 0 0)){st:St}{r:CR}(hLp:loopω (LB cx prim 89 Tryz.f89 0) st=r)(en:st.n=86)(e0:st.env 0 = .t (.str s))(e1:st.env 1 = .t (.int .i64 fr))(e6:st.env 6 = .ptr K 0 0 1)(e7:st.env 7 = .t .nilSlice)(e8:st.env 8 = .t (.int .i64 (fr+1)))(eh:st.h=hB) :
   ∃ x st',r=some (x,st')∧st'.n=86∧st'.env 6 = .ptr K 0 0 1 ∧
     (match txt s fr (fr+1) [] with
       | .ok (o,e)=>x = .exit 0∧e<s.size∧st'.env 0 = .t (.str s)∧st'.env 1 = .t (.int .i64 fr)∧st'.env 8 = .t (.int .i64 e)∧st'.h=(nrow 5 1 (ub o) hB).2∧st'.env 7=(nrow 5 1 (ub o) hB).1
       | .error (a,w)=>(x = .ret∧st'.env 4 = .t (.str noText)∧st'.env 5 = .t (.int .i64 0)∧st'.h.objs K=some (flt a w))∨(x = .exit 0∧a=fr∧w=84∧∃ j:Nat,s.size≤j∧j≤s.size∧st'.env 0 = .t (.str s)∧st'.env 1 = .t (.int .i64 fr)∧st'.env 8 = .t (.int .i64 j)∧st'.h.objs K=some (flt 0 0))):=by
 refine loop_uses hLp (s.size+1) (fun k st=>st.n=86∧st.env 6 = .ptr K 0 0 1∧st.env 0 = .t (.str s)∧st.env 1 = .t (.int .i64 fr)∧∃ (out:List UInt8) (j:Nat),fr+1+k≤j∧j≤s.size∧out.length≤j∧st.h=(nrow 5 1 (ub out) hB).2∧st.env 7=(nrow 5 1 (ub out) hB).1∧st.env 8 = .t (.int .i64 j)∧txt s fr j out=txt s fr (fr+1) []) _ ⟨en,e6,e0,e1,[],fr+1,by omega,by omega,by simp,by rw [eh]; rfl,by rw [e7]; rfl,by rw [e8]; rfl,rfl⟩ ?_
 rintro k ⟨nn,env,h2⟩ hk ⟨rfl,e6,e0,e1,out,j,hj1,hj2,hout,rfl,e7,e8,ht⟩;simp only at e0 e1 e6 e7 e8;rw [LB_run nd89 rfl];have ho:(nrow 5 1 (ub out) hB).2.objs K=some (flt 0 0):=by rw [nrow_objs hK,hok]
 have fst:=fl_st ho;rw [←ht];clear ht;by_cases hj:s.size≤j
 · rw [txt,if_pos hj]
   have c1:¬ (j:Int)<s.size:=by omega
   simp -implicitDefEqProofs (disch:=omega) [-storeD,-load_ptr,-H.els,e0,e1,e6,e7,e8,Wp_some];exact ⟨j,hj,hj2,rfl,ho⟩
 obtain ⟨b,hb,hbt⟩:=bt_get (s:=s) (i:=j) (by omega)
 have c1:(j:Int)<s.size:=by omega
 have hb8:=b.toNat_lt;by_cases h34:b.toNat=34
 · rw [txt,if_neg hj,if_pos (by omega)]
   simp -implicitDefEqProofs (disch:=omega) [-storeD,-load_ptr,-H.els,e0,e1,e6,e7,e8,Wp_some,hb,h34];omega
 have g34:eqI (b.toNat:Int) 34=false:=eqI_false (by omega)
 by_cases h92:b.toNat=92
 · rw [txt,if_neg hj,if_neg (by omega),if_pos (by omega)]
   by_cases hl:j+1=s.size
   · rw [if_pos hl]
     have hl':(j:Int)+1=s.size:=by omega
     simp -implicitDefEqProofs (disch:=omega) [-storeD,-load_ptr,-H.els,e0,e1,e6,e7,e8,Wp_some,hb,g34,h92,hl',fst];rfl
   rw [if_neg hl];have hl':eqI ((j:Int)+1) s.size=false:=eqI_false (by omega)
   obtain ⟨b1,hb1,hbt1⟩:=bt_get (s:=s) (i:=j+1) (by omega)
   have g0:((j:Int)+1).toNat=j+1:=by omega
   have g00:(0:Int)≤(j:Int)+1:=by omega
   have g01:(j:Int)+1<s.size:=by omega
   by_cases hs1:bt s (j+1)≠34∧bt s (j+1)≠92
   · rw [if_pos hs1]
     have k34:eqI (b1.toNat:Int) 34=false:=eqI_false (by omega)
     have k92:eqI (b1.toNat:Int) 92=false:=eqI_false (by omega)
     simp -implicitDefEqProofs (disch:=omega) [-storeD,-load_ptr,-H.els,e0,e1,e6,e7,e8,Wp_some,hb,g34,h92,hl',g0,g00,hb1,k34,k92,fst];rfl
   rw [if_neg hs1];have e1':((j:Int)+1)=((j+1:Nat):Int):=by omega
   have q81:=fun h=>c81 (c:=89) s (j+1) h (by omega) rfl
   have q82:=fun h=>c82 (c:=89) (nx s (j+1)).1 h rfl
   have two:b1.toNat=34∨b1.toNat=92:=by omega
   by_cases hc:charB (nx s (j+1)).1=true
   · rw [dif_pos hc]
     have hnc:=nx_char hc;have hcl:=cut_len (s:=s) (i:=j+1) (j:=j+1+(nx s (j+1)).2) hnc.2;rw [hc] at q82;generalize hjj:j+1=jj at *;have g2:=sl_str (s:=s) (a:=jj) (b:=(jj:Int)+(nx s jj).2);have g1:((jj:Int)+(nx s jj).2).toNat=jj+(nx s jj).2:=by omega
     have hap:=nb_app (h:=hB) (out:=out) (s.extract jj (jj+(nx s jj).2)) (by
       have:(s.extract jj (jj+(nx s jj).2)).size=(nx s jj).2:=by simp [ByteArray.size_extract]; omega
       omega)
     rw [cut_app] at hap;have e:((jj:Int)+(nx s jj).2)=((jj+(nx s jj).2:Nat):Int):=by omega
     have fin:k<s.size+1∧∃ (o:List UInt8) (j1:Nat),fr+1+(k+1)≤j1∧j1≤s.size∧o.length≤j1∧(nrow 5 1 (ub (out++cut s jj (jj+(nx s jj).2))) hB).2=(nrow 5 1 (ub o) hB).2∧(nrow 5 1 (ub (out++cut s jj (jj+(nx s jj).2))) hB).1=(nrow 5 1 (ub o) hB).1∧((jj:Int)+(nx s jj).2)=j1∧txt s fr j1 o=txt s fr (jj+(nx s jj).2) (out++cut s jj (jj+(nx s jj).2)) :=
       ⟨by omega,out++cut s jj (jj+(nx s jj).2),jj+(nx s jj).2,by omega,by omega,by simp; omega,rfl,rfl,by omega,rfl⟩
     rcases two with h2|h2
     · simp -implicitDefEqProofs (disch:=omega) [-storeD,-load_ptr,-H.els,e0,e1,e6,e7,e8,Wp_some,hb,g34,h92,hl',g0,g00,hb1,h2,e1',q81,q82,g1,g2,hap]
       exact fin
     · simp -implicitDefEqProofs (disch:=omega) [-storeD,-load_ptr,-H.els,e0,e1,e6,e7,e8,Wp_some,hb,g34,h92,hl',g0,g00,hb1,h2,e1',q81,q82,g1,g2,hap]
       exact fin
   · rw [dif_neg hc]
     have hcf:charB (nx s (j+1)).1=false:=by simpa using hc
     rw [hcf] at q82;generalize hjj:j+1=jj at *;rcases two with h2|h2
     · simp -implicitDefEqProofs (disch:=omega) [-storeD,-load_ptr,-H.els,e0,e1,e6,e7,e8,Wp_some,hb,g34,h92,hl',g0,g00,hb1,h2,e1',q81,q82,fst]
       rfl
     · simp -implicitDefEqProofs (disch:=omega) [-storeD,-load_ptr,-H.els,e0,e1,e6,e7,e8,Wp_some,hb,g34,h92,hl',g0,g00,hb1,h2,e1',q81,q82,fst]
       rfl
 · rw [txt,if_neg hj,if_neg (by omega),if_neg (by omega)]
   have q81:=fun h=>c81 (c:=89) s j h (by omega) rfl
   have q82:=fun h=>c82 (c:=89) (nx s j).1 h rfl
   have g92:eqI (b.toNat:Int) 92=false:=eqI_false (by omega)
   by_cases hc:charB (nx s j).1=true
   · rw [dif_pos hc]
     have hnc:=nx_char hc;rw [hc] at q82;have g1:((j:Int)+(nx s j).2).toNat=j+(nx s j).2:=by omega
     have g2:=sl_str (s:=s) (a:=j) (b:=(j:Int)+(nx s j).2);have hap:=nb_app (h:=hB) (out:=out) (s.extract j (j+(nx s j).2)) (by
       have:(s.extract j (j+(nx s j).2)).size=(nx s j).2:=by simp [ByteArray.size_extract]; omega
       omega)
     rw [cut_app] at hap;simp -implicitDefEqProofs (disch:=omega) [-storeD,-load_ptr,-H.els,e0,e1,e6,e7,e8,Wp_some,hb,g34,g92,q81,q82,g1,g2,hap];have hcl:=cut_len (s:=s) (i:=j) (j:=j+(nx s j).2) hnc.2;exact ⟨by omega,out++cut s j (j+(nx s j).2),j+(nx s j).2,by omega,by omega,by simp; omega,rfl,rfl,by omega,rfl⟩
   · rw [dif_neg hc]
     have hcf:charB (nx s j).1=false:=by simpa using hc
     rw [hcf] at q82;simp -implicitDefEqProofs (disch:=omega) [-storeD,-load_ptr,-H.els,e0,e1,e6,e7,e8,Wp_some,hb,g34,g92,q81,q82,fst];rfl
def rtx (s:ByteArray)(fr:Nat):ByteArray × Int × Int × Int:=match txt s fr (fr+1) [] with
 | .ok (o,e)=>if 64<o.length then (noText,0,fr,3) else (⟨o.toArray⟩,(e:Int)+1,0,0)
 | .error (a,w)=>(noText,0,a,w)
theorem s89 {s:ByteArray}{fr:Nat}(hs:s.size≤100000)(hfr:fr<s.size):∃ h',call cx prim 89 [.t (.str s),.t (.int .i64 fr)] .empty=some (.tup [.t (.str (rtx s fr).1),.t (.int .i64 (rtx s fr).2.1),.t (fltT (rtx s fr).2.2.1 (rtx s fr).2.2.2)],h'):=by
 rw [call_run rfl Tryz.func89 ok89 nd89 rfl (lbe rfl) rfl rfl];have lemL:=fun (st:St) (r:CR) (h:H) hK hok=>l89 (hB:=h) (K:=0) (s:=s) (fr:=fr) hK hs hfr hok (st:=st) (r:=r)
 have hf0:H.empty.push (.row 64 2 [.t (.agg [.int .i64 0,.int .i64 0])])=H.empty.push (flt 0 0):=rfl;simp -implicitDefEqProofs (disch:=omega) [-storeD,-load_ptr,-H.els,hf0];generalize hLp:loopω (LB cx prim 89 Tryz.f89 0) _=R;obtain ⟨x,⟨nn,env,h2⟩,rfl,rfl,e6,hx⟩:=lemL _ _ (H.empty.push (flt 0 0)) (by simp) (by simp) hLp rfl (by simp) (by simp) (by simp) (by simp) (by simp) rfl
 simp only at e6;unfold rtx
 cases htx:txt s fr (fr+1) [] with
 | error f =>
  obtain ⟨a,w⟩:=f;rw [htx] at hx;simp only at hx ⊢;rcases hx with ⟨rfl,e4,e5,ho⟩|⟨rfl,rfl,rfl,j,hj,hj',e0,e1,e8,ho⟩
  · have ld:=fl_ld ho
    simp -implicitDefEqProofs (disch:=omega) [-storeD,-load_ptr,-H.els,e6,e4,e5,ld];rfl
  · have fst:=fl_st ho
    have c1:(s.size:Int)≤j:=by omega
    have ld:=fun a' w'=>fl_ld (h:=h2.set 0 (flt a' w')) (K:=0) (a:=a') (w:=w') (by simp)
    simp -implicitDefEqProofs (disch:=omega) [-storeD,-load_ptr,-H.els,e6,e0,e1,e8,fst,ld];exact ⟨rfl,rfl⟩
 | ok oe =>
  obtain ⟨o,e⟩:=oe;rw [htx] at hx;simp only at hx ⊢;obtain ⟨rfl,he,e0,e1,e8,rfl,e7⟩:=hx;have ho:(nrow 5 1 (ub o) (H.empty.push (flt 0 0))).2.objs 0=some (flt 0 0):=by rw [nrow_objs (by simp)]; simp
  have fst:=fl_st ho;have lN:=len_new (b:=H.empty.push (flt 0 0)) (out:=o);have cv:=conv_new (b:=H.empty.push (flt 0 0)) (out:=o);have ld:=fun h2 a' w'=>fl_ld (h:=H.set h2 0 (flt a' w')) (K:=0) (a:=a') (w:=w') (by simp)
  have c1:¬ (s.size:Int)≤e:=by omega
  by_cases h64:64<o.length
  · rw [if_pos h64]
    have c2:(64:Int)<o.length:=by omega
    simp -implicitDefEqProofs (disch:=omega) [-storeD,-load_ptr,-H.els,e6,e0,e1,e8,e7,fst,ld,lN];exact ⟨rfl,rfl⟩
  · rw [if_neg h64]
    have c2:¬ (64:Int)<o.length:=by omega
    simp -implicitDefEqProofs (disch:=omega) [-storeD,-load_ptr,-H.els,e6,e0,e1,e8,e7,fst,ld,lN,cv];rfl
theorem c89 {c:FuncId}{s:ByteArray}{fr:Nat}(h:H)(hs:s.size≤100000)(hfr:fr<s.size)(hm:md c 89 = .pure):callD (cx.at c) (call cx prim) 89 [.t (.str s),.t (.int .i64 fr)] h=some (.tup [.t (.str (rtx s fr).1),.t (.int .i64 (rtx s fr).2.1),.t (fltT (rtx s fr).2.2.1 (rtx s fr).2.2.2)],h):=by
 obtain ⟨h',q⟩:=s89 hs hfr;exact pureT cb89 hm q (by simp [snapOut]) rfl
theorem append_at {h:H}{id n:Nat}{l ys:List UInt8}{x:D}(ho:h.objs id=some (.row 5 1 ((ub l).map .t)))(hn:n=l.length)(hsrc:sourceD h x=some ((ub ys).map .t))(hl:l.length+ys.length≤1000000000) :
  appendD Tryz.prog h 163 (.row id 0 n n) x=some (.row id 0 (l++ys).length (l++ys).length,h.set id (.row 5 1 ((ub (l++ys)).map .t))):=by
 subst hn;have hc:((ub ys).map D.t).all (fun d=>d.cells.length == 1)=true:=by
  have:=ub_cells ys;simp only [List.all_eq_true,List.mem_map] at this ⊢;rintro _ ⟨y,hy,rfl⟩;have:=this y hy;simpa [D.cells] using this
 have he:h.els id l.length=some (5,1,(ub l).map .t):=by simp [H.els,ho,ub]
 have hm:h.mays id ((ub ys).map D.t)=true:=mays_trees _ _ _;have hz:(T.int .u8 0).cells.length=1:=rfl;unfold appendD;simp only [tk163,sz5,byt5,zero5,hsrc,hc,hz,he,hm,List.length_map,ub_len,List.length_append];simp only [and_self,and_true,true_and,if_true,Nat.le_refl,Nat.lt_add_one,Nat.lt_irrefl,Nat.zero_lt_one];rw [if_pos ⟨by omega,by omega⟩]
 simp [ub]
def BR (h:H)(d:D)(l:List UInt8):Prop:=(l=[]∧d = .t .nilSlice)∨∃ id,id<h.next∧d = .row id 0 l.length l.length∧h.objs id=some (.row 5 1 ((ub l).map .t))
theorem BR.source {h:H}{d:D}{l:List UInt8}(hb:BR h d l)(o:AObj):sourceD (h.push o) d=some ((ub l).map .t):=by
 rcases hb with ⟨rfl,rfl⟩|⟨id,h1,rfl,h3⟩
 · rfl
 · have he:(h.push o).els id l.length=some (5,1,(ub l).map .t):=by
    have:(h.push o).objs id=some (.row 5 1 ((ub l).map .t)):=by simp only [push_objs,upd_ne _ _ (show id≠h.next by omega)]; exact h3
    simp [H.els,this,ub]
   simp only [sourceD,he];rw [if_pos (by simp [ub]),List.drop_zero,List.take_of_length_le (by simp [ub])]
theorem BR.conv {h:H}{d:D}{l:List UInt8}(hb:BR h d l):convD Tryz.prog h 163 9 d=some (.t (.str ⟨l.toArray⟩)):=by
 rcases hb with ⟨rfl,rfl⟩|⟨id,h1,rfl,h3⟩
 · unfold convD
   simp only [tk163,tk9];simp
 · have he:h.els id l.length=some (5,1,(ub l).map .t):=by simp [H.els,h3,ub]
   have hs:snap h (.row id 0 l.length l.length)=some (.slice (ub l)):=by
    rw [snap_def,snapF_row,he];simp only [Nat.zero_add,List.length_map,ub_len,Nat.le_refl,if_true,List.drop_zero];rw [show ((ub l).map D.t).take l.length=(ub l).map D.t from List.take_of_length_le (by simp [ub]),snapF_map]
    rfl
   unfold convD;simp only [tk163,tk9,hs];simp [byteOf_ub]
theorem l137 {x:Int}{n:Nat}(hn:n<18446744073709551616){st:St}{r:CR}(hLp:loopω (LB cx prim 137 Tryz.f137 0) st=r)(en:st.n=29)(e0:st.env 0 = .t (.int .i64 x))(e4:st.env 4 = .t (.int .u64 n))(e3:st.env 3 = .t .nilSlice) :
   ∃ x' st',r=some (x',st')∧x' = .exit 0∧st'.n=29∧st'.env 0 = .t (.int .i64 x)∧BR st'.h (st'.env 3) (dig n):=by
 refine loop_uses hLp n (fun k st=>st.n=29∧st.env 0 = .t (.int .i64 x)∧∃ (m:Nat) (out:List UInt8),m+k≤n∧st.env 4 = .t (.int .u64 m)∧BR st.h (st.env 3) out∧dig m++out=dig n) _ ⟨en,e0,n,[],by omega,e4,.inl ⟨rfl,e3⟩,by simp⟩ ?_
 rintro k ⟨nn,env,h2⟩ hk ⟨rfl,e0,m,out,hm,e4,hb,hd⟩;simp only at e0 e4 hb;rw [LB_run nd137 rfl];have hlen:=dig_len (n:=n) (k:=20) (by omega) (by omega)
 rw [←hd] at hlen;simp only [List.length_append] at hlen;have hsrc:=hb.source (.row 5 1 [.t (.int .u8 ((dchr m).toNat:Int))]);obtain ⟨d',h',hap,hb'⟩:∃ d' h',appendD Tryz.prog (h2.push (.row 5 1 [.t (.int .u8 ((dchr m).toNat:Int))])) 163 (.row h2.next 0 1 1) (env 3)=some (d',h')∧BR h' d' (dchr m::out) :=
   ⟨_,_,append_at (id:=h2.next) (n:=1) (l:=[dchr m]) (ys:=out) (by simp [ub]) rfl hsrc (by simp; omega),.inr ⟨h2.next,by simp,by simp,by simp⟩⟩
 have hc8:IntKind.wrap .u8 (48+(m:Int)%10)=((dchr m).toNat:Int):=by
   rw [dchr_nat];simp [IntKind.wrap];omega
 have t1:=tmod_pos' (a:=(m:Int)) (b:=10) (by omega)
 have t2:=fdiv_pos' (a:=(m:Int)) (b:=10) (by omega)
 by_cases h10:m<10
 · have z:(m:Int)/10=0:=by omega
   simp -implicitDefEqProofs (disch:=omega) [-storeD,-load_ptr,-H.els,e0,e4,Wp_some,t1,t2,hc8,hap,z,buildSliceD,List.replicate];rw [dig_small h10] at hd;rw [←hd];exact hb'
 · have z:eqI ((m:Int)/10) 0=false:=eqI_false (by omega)
   simp -implicitDefEqProofs (disch:=omega) [-storeD,-load_ptr,-H.els,e0,e4,Wp_some,t1,t2,hc8,hap,z,buildSliceD,List.replicate];rw [dig_big h10] at hd;exact ⟨by omega,m/10,by omega,by omega,dchr m::out,hb',by simpa using hd⟩
theorem s137 {x:Int}(hx : -9223372036854775808≤x)(hx2:x<9223372036854775808):∃ h',call cx prim 137 [.t (.int .i64 x)] .empty=some (.t (.str ⟨(decL x).toArray⟩),h'):=by
 rw [call_run rfl Tryz.func137 ok137 nd137 rfl (lbe rfl) rfl rfl];have lemL:=fun (n:Nat) hn (st:St) (r:CR)=>l137 (x:=x) (n:=n) hn (st:=st) (r:=r)
 have sg:IntKind.u64.signed=false:=rfl;unfold decL;by_cases hneg:x<0
 · have w1:IntKind.wrap .u64 x=x+18446744073709551616:=by simp [IntKind.wrap,sg]; omega
   have w2:IntKind.wrap .u64 (-(x+18446744073709551616))=(x.natAbs:Int):=by simp [IntKind.wrap,sg]; omega
   rw [if_pos hneg];simp -implicitDefEqProofs (disch:=omega) [w1,w2];generalize hLp:loopω (LB cx prim 137 Tryz.f137 0) _=R;obtain ⟨x',⟨nn,env,h2⟩,rfl,rfl,rfl,e0,hb⟩:=lemL x.natAbs (by omega) _ _ hLp rfl (by simp) (by simp) (by simp)
   simp only at e0 hb;have cv:=hb.conv;have hlen:=dig_len (n:=x.natAbs) (k:=20) (by omega) (by omega)
   have hsz:(⟨#[45]⟩:ByteArray).size+(⟨(dig x.natAbs).toArray⟩:ByteArray).size≤9223372036854775807:=by simp [ByteArray.size]; omega
   have happ:(⟨#[45]⟩:ByteArray)++(⟨(dig x.natAbs).toArray⟩:ByteArray)=⟨(45::dig x.natAbs).toArray⟩:=by
    apply ByteArray.ext;simp
   simp -implicitDefEqProofs (disch:=omega) [e0,cv,hsz,happ]
 · have w1:IntKind.wrap .u64 x=x:=by simp [IntKind.wrap,sg]; omega
   have e:x=(x.natAbs:Int):=by omega
   rw [if_neg hneg];simp -implicitDefEqProofs (disch:=omega) [w1];generalize hLp:loopω (LB cx prim 137 Tryz.f137 0) _=R;obtain ⟨x',⟨nn,env,h2⟩,rfl,rfl,rfl,e0,hb⟩:=lemL x.natAbs (by omega) _ _ hLp rfl (by simp) (by simp; omega) (by simp)
   simp only at e0 hb;have cv:=hb.conv;simp -implicitDefEqProofs (disch:=omega) [e0,cv]
theorem c137 {c:FuncId}{x:Int}(h:H)(hx : -9223372036854775808≤x)(hx2:x<9223372036854775808)(hm:md c 137 = .pure):callD (cx.at c) (call cx prim) 137 [.t (.int .i64 x)] h=some (.t (.str ⟨(decL x).toArray⟩),h):=by
 obtain ⟨h',q⟩:=s137 hx hx2;exact pureT cb137 hm q rfl rfl
theorem dval_take {l:List UInt8}{k:Nat}{b:UInt8}(hb:l[k]?=some b):dval (l.take (k+1))=dval (l.take k)*10+(b.toNat-48):=by
 have h:k<l.length:=by
  apply Classical.byContradiction;intro h;rw [List.getElem?_eq_none (by omega)] at hb
  cases hb
 rw [List.take_succ_eq_append_getElem h,dval_snoc];rw [List.getElem?_eq_getElem h] at hb;rw [Option.some.inj hb]
theorem l87 {l:List UInt8}(h1:l≠[])(h19:l.length≤19)(hall:∀ b∈l,digitB b.toNat=true){s:ByteArray}{h:H}{st:St}{r:CR}(hLp:loopω (LB cx prim 87 Tryz.f87 0) st=r)(en:st.n=65)(e0:st.env 0 = .t (.str s))(e4:st.env 4 = .t (.str ⟨l.toArray⟩))(e5:st.env 5 = .t (.int .u64 0))(e6:st.env 6 = .t (.int .i64 0))(eh:st.h=h) :
   ∃ x' st',r=some (x',st')∧x' = .exit 0∧st'.n=65∧st'.env 0 = .t (.str s)∧st'.env 4 = .t (.str ⟨l.toArray⟩)∧st'.env 5 = .t (.int .u64 (dval l))∧st'.h=h:=by
 have hsz:(⟨l.toArray⟩:ByteArray).size=l.length:=by simp [ByteArray.size]
 refine loop_uses hLp l.length (fun k st=>st.n=65∧st.env 0 = .t (.str s)∧st.env 4 = .t (.str ⟨l.toArray⟩)∧st.env 6 = .t (.int .i64 k)∧st.env 5 = .t (.int .u64 (dval (l.take k)))∧st.h=h) _ ⟨en,e0,e4,e6,by simpa [dval] using e5,eh⟩ ?_
 rintro k ⟨nn,env,h2⟩ hk ⟨rfl,e0,e4,e6,e5,rfl⟩;simp only at e0 e4 e5 e6;rw [LB_run nd87 rfl];by_cases hk':k<l.length
 · obtain ⟨b,hb⟩:∃ b,l[k]?=some b:=⟨l[k],by simp [hk']⟩
   have hd:=hall b (List.mem_of_getElem? hb);simp only [digitB,decide_eq_true_eq] at hd;have hlt:=dval_lt k (l.take k) (by simp; omega) fun b hb=>hall b (List.mem_of_mem_take hb)
   have h18:10 ^ k≤10 ^ 18:=Nat.pow_le_pow_right (by omega) (by omega)
   have e18:10 ^ 18=1000000000000000000:=by decide
   have ht:=dval_take hb;have c1:(k:Int)<l.length:=by omega
   have w1:IntKind.wrap .u64 ((dval (l.take k):Int)*10)=(dval (l.take k):Int)*10:=by simp [IntKind.wrap,show IntKind.u64.signed=false from rfl]; omega
   have w2:IntKind.wrap .u8 ((b.toNat:Int)-48)=((b.toNat-48:Nat):Int):=by
    have:=b.toNat_lt;simp [IntKind.wrap,show IntKind.u8.signed=false from rfl]; omega
   have w3:IntKind.wrap .u64 ((b.toNat-48:Nat):Int)=((b.toNat-48:Nat):Int):=by
    simp [IntKind.wrap,show IntKind.u64.signed=false from rfl]; omega
   have w4:IntKind.wrap .u64 ((dval (l.take k):Int)*10+((b.toNat-48:Nat):Int))=(dval (l.take (k+1)):Int):=by
    rw [ht];simp [IntKind.wrap,show IntKind.u64.signed=false from rfl]; omega
   have hb1:∀ (h:k<l.length),l[k]=b:=fun h=>by rw [List.getElem?_eq_getElem h] at hb; exact Option.some.inj hb
   simp -implicitDefEqProofs (disch:=omega) [hsz,e0,e4,e5,e6,hb,hb1,Wp_some,w1,w2,w3,w4];exact hk'
 · obtain rfl:k=l.length:=by omega
   rw [List.take_length] at e5;simp -implicitDefEqProofs (disch:=omega) [hsz,e0,e4,e5,e6,Wp_some]
theorem s87 {l:List UInt8}(h1:l≠[])(hl:l.length≤100000)(hall:∀ b∈l,digitB b.toNat=true):∃ n ok h',call cx prim 87 [.t (.str ⟨l.toArray⟩)] .empty=some (.tup [.t (.int .i64 n),.t (.bool ok)],h')∧numS l=if ok=true then some n else none:=by
 rw [call_run rfl Tryz.func87 ok87 nd87 rfl (lbe rfl) rfl rfl];have hsz:(⟨l.toArray⟩:ByteArray).size=l.length:=by simp [ByteArray.size]
 have hpos:0<l.length:=List.length_pos_iff.2 h1;have c1:(0:Int)<l.length:=by omega
 obtain ⟨b,hb⟩:∃ b,l[0]?=some b:=⟨l[0],by simp [hpos]⟩
 have hd:=hall b (List.mem_of_getElem? hb);simp only [digitB,decide_eq_true_eq] at hd;have hb1:∀ (h:0<l.length),l[0]=b:=fun h=>by rw [List.getElem?_eq_getElem h] at hb; exact Option.some.inj hb
 have n45:eqI (b.toNat:Int) 45=false:=eqI_false (by omega)
 have c2:¬ (l.length:Int)<1:=by omega
 by_cases h19:19<l.length
 · have c3:(19:Int)<l.length:=by omega
   simp -implicitDefEqProofs (disch:=omega) [hsz,hb,hb1,n45];exact numS_long h1 hall h19
 have c3:¬ (19:Int)<l.length:=by omega
 have lemL:=fun (s:ByteArray) (st:St) (r:CR) (h:H)=>l87 (s:=s) (h:=h) h1 (by omega) hall (st:=st) (r:=r)
 simp -implicitDefEqProofs (disch:=omega) [hsz,hb,hb1,n45];generalize hLp:loopω (LB cx prim 87 Tryz.f87 0) _=R;obtain ⟨x',⟨nn,env,h2⟩,rfl,rfl,rfl,e0,e4,e5,rfl⟩:=lemL ⟨l.toArray⟩ _ _ _ hLp rfl (by simp) (by simp) (by simp) (by simp) rfl
 simp only at e0 e4 e5;have hlt:=dval_lt l.length l rfl hall;have h18:10 ^ l.length≤10 ^ 19:=Nat.pow_le_pow_right (by omega) (by omega)
 have e18:10 ^ 19=10000000000000000000:=by decide
 by_cases hbig:dval l<9223372036854775808
 · have w1:IntKind.wrap .i64 (dval l:Int)=(dval l:Int):=by simp [IntKind.wrap,show IntKind.i64.signed=true from rfl]; omega
   have q137:=fun h=>c137 (c:=87) (x:=(dval l:Int)) h (by omega) (by omega) rfl
   have hde:decL (dval l:Int)=dig (dval l):=by unfold decL; rw [if_neg (by omega)]; rfl
   rw [hde] at q137;have heq:eqS ⟨(dig (dval l)).toArray⟩ ⟨l.toArray⟩=decide (dig (dval l)=l):=by simp only [eqS,ba_eq]
   simp -implicitDefEqProofs (disch:=omega) [hsz,e0,e4,e5,w1,q137,heq];by_cases he:dig (dval l)=l
   · exact ⟨_,.inr ⟨⟨rfl,he⟩,numS_yes h1 hall hbig he⟩⟩
   · exact ⟨_,.inl ⟨⟨rfl,he⟩,numS_no h1 hall (fun h=>he h.2)⟩⟩
 · have w1:IntKind.wrap .i64 (dval l:Int)=(dval l:Int)-18446744073709551616:=by simp [IntKind.wrap,show IntKind.i64.signed=true from rfl]; omega
   have q137:=fun h=>c137 (c:=87) (x:=(dval l:Int)-18446744073709551616) h (by omega) (by omega) rfl
   have heq:eqS ⟨(decL ((dval l:Int)-18446744073709551616)).toArray⟩ ⟨l.toArray⟩=false:=by
     simp only [eqS,ba_eq,decide_eq_false_iff_not];intro e;unfold decL at e;rw [if_pos (by omega)] at e
     have:=hall 45 (by rw [←e]; simp)
     simp [digitB] at this
   simp -implicitDefEqProofs (disch:=omega) [hsz,e0,e4,e5,w1,q137,heq];exact numS_no h1 hall (fun h=>hbig h.1)
theorem l10a {s:ByteArray}{i:Nat}{d v7:D}{h:H}(hs:s.size≤100000)(hi:i≤s.size){st:St}{r:CR}(hLp:loopω (LB cx prim 49 Tryz.f49 2) st=r)(en:st.n=140)(e0:st.env 0 = .t (.str s))(e3:st.env 3 = .ptr 0 0 0 1)(e4:st.env 4=d)(e5:st.env 5 = .t (.int .i64 i))(e7:st.env 7=v7)(eh:st.h=h) :
   ∃ x st',r=some (x,st')∧x = .exit 2∧st'.n=140∧st'.env 0 = .t (.str s)∧st'.env 3 = .ptr 0 0 0 1∧st'.env 4=d∧st'.env 5 = .t (.int .i64 (runTo digitB s i:Nat))∧st'.env 7=v7∧st'.h=h:=by
 refine loop_uses hLp (s.size+1) (fun k st=>st.n=140∧st.env 0 = .t (.str s)∧st.env 3 = .ptr 0 0 0 1∧st.env 4=d∧st.env 7=v7∧st.h=h∧∃ j:Nat,i+k≤j∧j≤s.size∧st.env 5 = .t (.int .i64 j)∧runTo digitB s j=runTo digitB s i) _ ⟨en,e0,e3,e4,e7,eh,i,by omega,hi,e5,rfl⟩ ?_
 rintro k ⟨nn,env,h2⟩ hk ⟨rfl,e0,e3,rfl,rfl,rfl,j,hj,hjs,e5,hr⟩;simp only at e0 e3 e5;rw [LB_run nd49 rfl];by_cases hj2:j<s.size
 · obtain ⟨b,hb,hbt⟩:=bt_get hj2
   have c1:(j:Int)<s.size:=by omega
   have q:=fun h=>c86 (c:=49) b.toNat h rfl
   cases hd:digitB b.toNat with
   | true =>
    rw [hd] at q;have hrs:=runTo_step (p:=digitB) hj2 (by rw [hbt]; exact hd)
    simp -implicitDefEqProofs (disch:=omega) [e0,e3,e5,hb,q,Wp_some];exact ⟨by omega,j+1,by omega,by omega,by omega,by rw [hrs,hr]⟩
   | false =>
    rw [hd] at q;have hrs:=runTo_stop (p:=digitB) (s:=s) (i:=j) (by rw [hbt,hd]; simp)
    simp -implicitDefEqProofs (disch:=omega) [e0,e3,e5,hb,q,Wp_some];rw [←hr,hrs]
 · have hrs:=runTo_stop (p:=digitB) (s:=s) (i:=j) (by omega)
   have c1:¬ (j:Int)<s.size:=by omega
   simp -implicitDefEqProofs (disch:=omega) [e0,e3,e5,Wp_some];rw [←hr,hrs]
theorem l10b {s:ByteArray}{i:Nat}{d v7:D}{h:H}(hs:s.size≤100000)(hi:i≤s.size){st:St}{r:CR}(hLp:loopω (LB cx prim 49 Tryz.f49 4) st=r)(en:st.n=140)(e0:st.env 0 = .t (.str s))(e3:st.env 3 = .ptr 0 0 0 1)(e4:st.env 4=d)(e5:st.env 5 = .t (.int .i64 i))(e7:st.env 7=v7)(eh:st.h=h) :
   ∃ x st',r=some (x,st')∧x = .exit 4∧st'.n=140∧st'.env 0 = .t (.str s)∧st'.env 3 = .ptr 0 0 0 1∧st'.env 4=d∧st'.env 5 = .t (.int .i64 (runTo wordB s i:Nat))∧st'.env 7=v7∧st'.h=h:=by
 refine loop_uses hLp (s.size+1) (fun k st=>st.n=140∧st.env 0 = .t (.str s)∧st.env 3 = .ptr 0 0 0 1∧st.env 4=d∧st.env 7=v7∧st.h=h∧∃ j:Nat,i+k≤j∧j≤s.size∧st.env 5 = .t (.int .i64 j)∧runTo wordB s j=runTo wordB s i) _ ⟨en,e0,e3,e4,e7,eh,i,by omega,hi,e5,rfl⟩ ?_
 rintro k ⟨nn,env,h2⟩ hk ⟨rfl,e0,e3,rfl,rfl,rfl,j,hj,hjs,e5,hr⟩;simp only at e0 e3 e5;rw [LB_run nd49 rfl];by_cases hj2:j<s.size
 · obtain ⟨b,hb,hbt⟩:=bt_get hj2
   have c1:(j:Int)<s.size:=by omega
   have q:=fun h=>c86 (c:=49) b.toNat h rfl
   have q88:=fun h=>c88 (c:=49) b.toNat h rfl
   cases hl:letterB b.toNat with
   | true =>
    rw [hl] at q88;have hrs:=runTo_step (p:=wordB) hj2 (by rw [hbt]; simp [wordB,hl])
    simp -implicitDefEqProofs (disch:=omega) [e0,e3,e5,hb,q,q88,Wp_some];exact ⟨by omega,j+1,by omega,by omega,by omega,by rw [hrs,hr]⟩
   | false =>
    rw [hl] at q88
    cases hd:digitB b.toNat with
    | true =>
     rw [hd] at q;have hrs:=runTo_step (p:=wordB) hj2 (by rw [hbt]; simp [wordB,hd])
     simp -implicitDefEqProofs (disch:=omega) [e0,e3,e5,hb,q,q88,Wp_some];exact ⟨by omega,j+1,by omega,by omega,by omega,by rw [hrs,hr]⟩
    | false =>
     rw [hd] at q;have hrs:=runTo_stop (p:=wordB) (s:=s) (i:=j) (by rw [hbt]; simp [wordB,hd,hl])
     simp -implicitDefEqProofs (disch:=omega) [e0,e3,e5,hb,q,q88,Wp_some];rw [←hr,hrs]
 · have hrs:=runTo_stop (p:=wordB) (s:=s) (i:=j) (by omega)
   have c1:¬ (j:Int)<s.size:=by omega
   simp -implicitDefEqProofs (disch:=omega) [e0,e3,e5,Wp_some];rw [←hr,hrs]
def TR (h:H)(d:D)(l:List Tk):Prop:=(l=[]∧d = .t .nilSlice)∨∃ id,id<h.next∧d = .row id 0 l.length l.length∧h.objs id=some (.row 134 4 ((l.map Tk.t).map .t))
theorem TR.push {h:H}{d:D}{l:List Tk}(ht:TR h d l)(o:AObj):TR (h.push o) d l:=by
 rcases ht with ht|⟨id,h1,rfl,h3⟩
 · exact .inl ht
 · exact .inr ⟨id,by simp; omega,rfl,by simp only [push_objs,upd_ne _ _ (show id≠h.next by omega)]; exact h3⟩
theorem TR.setF {h:H}{d:D}{l:List Tk}(ht:TR h d l){K:Nat}{a w a' w':Int}(hK:h.objs K=some (flt a w)):TR (h.set K (flt a' w')) d l:=by
 rcases ht with ht|⟨id,h1,rfl,h3⟩
 · exact .inl ht
 · have hne:id≠K:=fun e=>by
    subst e;rw [hK] at h3;simp [flt] at h3
   exact .inr ⟨id,by simpa using h1,rfl,by simp only [set_objs,upd_ne _ _ hne]; exact h3⟩
theorem tok_add {h:H}{d:D}{l:List Tk}(ht:TR h d l)(hm:h.marks=[])(hlen:l.length≤1000000)(t:Tk) :
   ∃ d' h',appendD Tryz.prog h 80 d (.t (.slice [t.t]))=some (d',h')∧TR h' d' (l ++ [t])∧h.next≤h'.next∧h'.marks=[]∧∀ K a w,K<h.next→h.objs K=some (flt a w)→h'.objs K=some (flt a w):=by
 have hz:((sz Tryz.prog 134=some 4)∧byt Tryz.prog 134=some 40):=⟨sz134,byt134⟩;rcases ht with ⟨rfl,rfl⟩|⟨id,h1,rfl,h3⟩
 · refine ⟨_,_,by simp [appendD,sourceD,Tk.t]; rfl,.inr ⟨h.next,by simp,rfl,by simp [Tk.t]⟩,by simp,by simpa using hm,fun K a w hK ho=>?_⟩
   simp only [push_objs,upd_ne _ _ (show K≠h.next by omega)]
   exact ho
 · have he:h.els id l.length=some (134,4,(l.map Tk.t).map .t):=by simp [H.els,h3]
   have e1:l.length+1<140737488355328:=by omega
   have e2:(l.length+1)*40≤140737488355328:=by omega
   have hmm:h.mays id [D.t t.t]=true:=mays_trees h id [t.t];refine ⟨.row id 0 (l.length+1) (l.length+1),h.set id (.row 134 4 ((l.map Tk.t).map .t ++ [.t t.t])),?_,.inr ⟨id,by simpa using h1,by simp,by simp⟩,by simp,by simpa using hm,fun K a w hK ho=>?_⟩
   · simp [-H.els,-H.mays,appendD,sourceD,he,hmm,e1,e2,show t.t.cells.length=4 from rfl]
   · have hne:K≠id:=fun e=>by
      subst e;rw [h3] at ho;simp [flt] at ho
     simp only [set_objs,upd_ne _ _ hne];exact ho
end Go.Proofs.YtaldobgfbkllfaaGreatDoor
