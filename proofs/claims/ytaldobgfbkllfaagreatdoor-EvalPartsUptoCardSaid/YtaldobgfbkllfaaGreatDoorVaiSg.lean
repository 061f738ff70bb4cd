import Derived.Test.YtaldobgfbkllfaaGreatDoorVaiSf
set_option linter.unusedSimpArgs false
set_option linter.unusedVariables false
set_option linter.unusedSectionVars false
namespace Go.Proofs.YtaldobgfbkllfaaGreatDoor
open Vai
variable [Gl]
set_option maxHeartbeats 0
set_option maxRecDepth 100000
theorem LX.push {n:Nat}{h:H}{L:Nat}{s:ByteArray}{i:Nat}{ts:List T}(hl:LX n h L s i ts)(o:AObj):LX n (h.push o) L s i ts∧Fr n h (h.push o):=by
 obtain ⟨h1,h2,h3,h4,d,hd,h5⟩:=hl;refine ⟨⟨h1,by simp; omega,h3,h4,d,by simp only [push_objs,upd_ne _ _ (show L≠h.next by omega)]; exact hd,?_⟩,Fr.push (by omega)⟩
 rcases h5 with h5|⟨id,g1,g2,rfl,g3⟩
 · exact .inl h5
 · exact .inr ⟨id,g1,by simp; omega,rfl,by simp only [push_objs,upd_ne _ _ (show id≠h.next by omega)]; exact g3⟩
theorem s123 {n:Nat}{h:H}{L:Nat}{s:ByteArray}{i:Nat}{ts:List T}(hl:LX n h L s i ts)(hlen:ts.length≤1000000)(hs:s.size≤1000000)(hi:i<s.size) :
  Steps n h L s ts (call cx prim 123 [.ptr L 0 0 1] h) (if signL s i=0 then .error (i,121) else .ok (⟨4,s.extract i (i+signL s i),0,i⟩,i+signL s i)):=by
 rw [call_run rfl Tryz.func123 ok123 nd123 rfl (lbe rfl) rfl rfl];obtain ⟨hl1,hf1⟩:=hl.push (.row 118 1 [.ptr L 0 0 1]);have hB:(h.push (.row 118 1 [.ptr L 0 0 1])).objs h.next=some (.row 118 1 [.ptr L 0 0 1]):=by simp
 generalize hh1:h.push (.row 118 1 [.ptr L 0 0 1])=h1 at hl1 hf1 hB;obtain ⟨d,ho⟩:=lx_isAt hl1;have lB:loadD Tryz.prog h1 118 (.ptr h.next 0 0 1)=some (.ptr L 0 0 1):=by simp [loadD,H.els,hB]
 have q155:=keepT (cc:=cx.at 123) cb155 (by simp [md]) (s155 ho hB hs hi sgs (by decide) (by decide))
 have hfd:=sign_find hi;have hlit:sgs.map T.str=[.str ⟨#[61,61]⟩,.str ⟨#[33,61]⟩,.str ⟨#[60,61]⟩,.str ⟨#[62,61]⟩,.str ⟨#[38,38]⟩,.str ⟨#[124,124]⟩,.str ⟨#[43]⟩,.str ⟨#[45]⟩,.str ⟨#[42]⟩,.str ⟨#[47]⟩,.str ⟨#[37]⟩,.str ⟨#[40]⟩,.str ⟨#[41]⟩,.str ⟨#[63]⟩,.str ⟨#[58]⟩,.str ⟨#[33]⟩,.str ⟨#[60]⟩,.str ⟨#[62]⟩]:=rfl
 cases hfi:sgs.findIdx? (atS s i) with
 | none =>
  rw [hfi] at hfd q155;simp only at hfd q155;rw [if_pos hfd];simp only [Steps];rw [hlit] at q155;simp -implicitDefEqProofs (disch:=omega) [-storeD,-load_ptr,-nilCheckD,-fieldAddrD,-H.els,lx_s ho,lx_at ho,lx_nil ho,lx_f0 ho,lx_f1 ho,lB,litSliceD,List.replicate,hh1,q155];exact hf1
 | some k =>
  rw [hfi] at hfd q155;simp only at hfd q155;obtain ⟨x,hx,hne,hxe,hxs⟩:=hfd;rw [if_neg hne];simp only [Steps];obtain ⟨h2,r1,r2,r3,r4⟩:=c120 (c:=123) hl1 hlen ⟨4,s.extract i (i+signL s i),0,i⟩;rw [←hxe] at r1 r2 ⊢;simp only [Tk.t] at r1;have hB2:=r4 _ _ (by rw [←hh1]; simp) hB
  obtain ⟨d2,ho2,r5,r6⟩:=r2.move (i+signL s i);have hsl:=signL_le hi;have lB2:loadD Tryz.prog h2 118 (.ptr h.next 0 0 1)=some (.ptr L 0 0 1):=by simp [loadD,H.els,hB2]
  have hst:=lx_set ho2 (i+signL s i:Int);have hsz:((x.size:Nat):Int)=signL s i:=by omega
  have hk:¬ ((k:Int)<0):=by omega
  simp -implicitDefEqProofs (disch:=omega) [-storeD,-load_ptr,-nilCheckD,-fieldAddrD,-H.els,lx_s ho,lx_at ho,lx_nil ho,lx_f0 ho,lx_f1 ho,lx_at ho2,lx_nil ho2,lx_f1 ho2,lB,lB2,litSliceD,List.replicate,hh1,←hlit,q155,hx,r1,hsz,hst];have e:((i:Int)+signL s i)=((i+signL s i:Nat):Int):=by omega
  rw [e];exact ⟨r5,hf1.trans (r3.trans r6)⟩
theorem upd_comm' {α:Type}{f:Nat→α}{i j:Nat}{x y:α}(hne:i≠j):upd (upd f j y) i x=upd (upd f i x) j y:=by
 funext k
 simp only [upd];by_cases h1:k=i<;>by_cases h2:k=j
 · exact absurd (h1.symm.trans h2) hne
 · simp [h1,hne]
 · simp [h2,Ne.symm hne]
 · simp [h1,h2]
theorem upd_upd' {α:Type}{f:Nat→α}{i:Nat}{x y:α}:upd (upd f i x) i y=upd f i y:=by
 funext k
 simp only [upd];split<;>rfl
section
variable {h:H}{L:Nat}{xs:List T}{o o':AObj}(hL:L<h.next)
include hL
theorem nb_objs:(nrow 5 1 xs (h.set L o)).2.objs L=some o:=by
 unfold nrow;split
 · simp
 · simp only [push_objs,set_next,upd_ne _ _ (show L≠h.next by omega),set_objs,upd_same]
theorem nb_set:(nrow 5 1 xs (h.set L o)).2.set L o'=(nrow 5 1 xs (h.set L o')).2:=by
 unfold nrow;split
 · simp
 · simp only [H.push,H.set,H.mk.injEq,and_true]
   exact (upd_comm' (show L≠h.next by omega)).trans (by rw [upd_upd'])
end
theorem nb_fst {h:H}{L:Nat}{xs:List T}{o o':AObj}:(nrow 5 1 xs (h.set L o)).1=(nrow 5 1 xs (h.set L o')).1:=by
 unfold nrow; split<;>rfl
theorem nb_app {h:H}{out:List UInt8}(y:ByteArray)(hl:out.length+y.size≤1000000):appendD Tryz.prog (nrow 5 1 (ub out) h).2 163 (nrow 5 1 (ub out) h).1 (.t (.str y))=some (nrow 5 1 (ub (out++y.data.toList)) h):=by
 have hy:y.data.toList.length=y.size:=by simp
 rw [ub_append];exact append_new (P:=Tryz.prog) (t:=163) (e:=5) (s:=1) (b:=1) (x:=.t (.str y)) (ys:=ub y.data.toList) tk163 sz5 byt5 zero5 rfl (by decide) rfl (ub_cells _) (by rw [ub_len,ub_len,hy]; omega) (by rw [ub_len,ub_len,hy]; omega)
theorem cut_app {s:ByteArray}{i n:Nat}:(s.extract i (i+n)).data.toList=cut s i (i+n):=by
 rw [extract_bytes,cut,show i+n-i=n by omega]
theorem l122 {h:H}{L:Nat}{s:ByteArray}{fr:Nat}{d:D}(hL:L<h.next)(hs:s.size≤100000)(hfr:fr<s.size){st:St}{r:CR}(hLp:loopω (LB cx prim 122 Tryz.f122 0) st=r)(en:st.n=163)(e0:st.env 0 = .ptr L 0 0 1)(e4:st.env 4 = .t (.int .i64 fr))(e5:st.env 5 = .t .nilSlice)(eh:st.h=h.set L (lxO s (fr+1:Nat) d)) :
   ∃ x st',r=some (x,st')∧st'.n=163∧∃ (out:List UInt8) (j:Nat),st'.h=(nrow 5 1 (ub out) (h.set L (lxO s j d))).2 ∧
     (match txt s fr (fr+1) [] with
       | .ok (o,e)=>x = .exit 0∧o=out∧e=j∧j<s.size∧st'.env 0 = .ptr L 0 0 1∧st'.env 4 = .t (.int .i64 fr)∧st'.env 5=(nrow 5 1 (ub out) (h.set L (lxO s j d))).1
       | .error (a,w)=>(x = .ret∧st'.env 2 = .t (.int .i64 a)∧st'.env 3 = .t (.int .i64 w))∨(x = .exit 0∧s.size≤j∧a=fr∧w=84∧st'.env 0 = .ptr L 0 0 1∧st'.env 4 = .t (.int .i64 fr))):=by
 refine loop_uses hLp (s.size+1) (fun k st=>st.n=163∧st.env 0 = .ptr L 0 0 1∧st.env 4 = .t (.int .i64 fr)∧∃ (out:List UInt8) (j:Nat),fr+1+k≤j∧j≤s.size∧out.length≤j∧st.h=(nrow 5 1 (ub out) (h.set L (lxO s j d))).2∧st.env 5=(nrow 5 1 (ub out) (h.set L (lxO s j d))).1∧txt s fr j out=txt s fr (fr+1) []) _ ⟨en,e0,e4,[],fr+1,by omega,by omega,by simp,by rw [eh]; rfl,by rw [e5]; rfl,rfl⟩ ?_
 rintro k ⟨nn,env,h2⟩ hk ⟨rfl,e0,e4,out,j,hj1,hj2,hout,rfl,e5,ht⟩;simp only at e0 e4 e5;rw [LB_run nd122 rfl];have ho:=nb_objs (xs:=ub out) (o:=lxO s j d) hL;rw [←ht];clear ht;by_cases hj:s.size≤j
 · rw [txt,if_pos hj]
   have c1:¬ (j:Int)<s.size:=by omega
   simp -implicitDefEqProofs (disch:=omega) [-storeD,-load_ptr,-nilCheckD,-fieldAddrD,-H.els,lx_s ho,lx_at ho,lx_nil ho,lx_f0 ho,lx_f1 ho,e0,e4,e5,Wp_some];exact ⟨out,j,rfl,by omega⟩
 obtain ⟨b,hb,hbt⟩:=bt_get (s:=s) (i:=j) (by omega)
 have c1:(j:Int)<s.size:=by omega
 have hb8:=b.toNat_lt;by_cases h34:b.toNat=34
 · rw [txt,if_neg hj,if_pos (by omega)]
   simp -implicitDefEqProofs (disch:=omega) [-storeD,-load_ptr,-nilCheckD,-fieldAddrD,-H.els,lx_s ho,lx_at ho,lx_nil ho,lx_f0 ho,lx_f1 ho,e0,e4,e5,Wp_some,hb,h34];exact ⟨out,j,rfl,rfl,rfl,by omega,rfl⟩
 by_cases h92:b.toNat=92
 · rw [txt,if_neg hj,if_neg (by omega),if_pos (by omega)]
   have g34:eqI (b.toNat:Int) 34=false:=eqI_false (by omega)
   by_cases hl:j+1=s.size
   · rw [if_pos hl]
     have hl':(j:Int)+1=s.size:=by omega
     simp -implicitDefEqProofs (disch:=omega) [-storeD,-load_ptr,-nilCheckD,-fieldAddrD,-H.els,lx_s ho,lx_at ho,lx_nil ho,lx_f0 ho,lx_f1 ho,e0,e4,e5,Wp_some,hb,g34,h92];exact ⟨out,j,rfl⟩
   rw [if_neg hl];have hl':eqI ((j:Int)+1) s.size=false:=eqI_false (by omega)
   obtain ⟨b1,hb1,hbt1⟩:=bt_get (s:=s) (i:=j+1) (by omega)
   have g0:((j:Int)+1).toNat=j+1:=by omega
   have g00:(0:Int)≤(j:Int)+1:=by omega
   by_cases hs1:bt s (j+1)≠34∧bt s (j+1)≠92
   · rw [if_pos hs1]
     have k34:eqI (b1.toNat:Int) 34=false:=eqI_false (by omega)
     have k92:eqI (b1.toNat:Int) 92=false:=eqI_false (by omega)
     simp -implicitDefEqProofs (disch:=omega) [-storeD,-load_ptr,-nilCheckD,-fieldAddrD,-H.els,lx_s ho,lx_at ho,lx_nil ho,lx_f0 ho,lx_f1 ho,e0,e4,e5,Wp_some,hb,g34,h92,hl',g0,g00,hb1,k34,k92];exact ⟨out,j,rfl⟩
   rw [if_neg hs1];have ho2:=nb_objs (xs:=ub out) (o:=lxO s (j+1:Nat) d) hL;have hst1:=lx_set ho (j+1:Int);have e1:((j:Int)+1)=((j+1:Nat):Int):=by omega
   have hst2:storeD Tryz.prog (nrow 5 1 (ub out) (h.set L (lxO s j d))).2 3 (.ptr L 0 1 1) (.t (.int .i64 ((j:Int)+1)))=some (nrow 5 1 (ub out) (h.set L (lxO s (j+1:Nat) d))).2:=by
     rw [hst1,e1,nb_set hL]
   rw [e1] at hst2;have q116:=fun h=>c116 (c:=122) s (j+1) h (by omega) rfl
   have q142:=fun h=>c142 (c:=122) (nx s (j+1)).1 h rfl
   rw [nb_fst (o':=lxO s (j+1:Nat) d)] at e5;have two:b1.toNat=34∨b1.toNat=92:=by omega
   by_cases hc:charB (nx s (j+1)).1=true
   · rw [dif_pos hc]
     have hnc:=nx_char hc;have hcl:=cut_len (s:=s) (i:=j+1) (j:=j+1+(nx s (j+1)).2) hnc.2;rw [hc] at q142;generalize hjj:j+1=jj at *;have g2:=sl_str (s:=s) (a:=jj) (b:=(jj:Int)+(nx s jj).2);have g1:((jj:Int)+(nx s jj).2).toNat=jj+(nx s jj).2:=by omega
     have hap:=nb_app (h:=h.set L (lxO s jj d)) (out:=out) (s.extract jj (jj+(nx s jj).2)) (by
       have:(s.extract jj (jj+(nx s jj).2)).size=(nx s jj).2:=by simp [ByteArray.size_extract]; omega
       omega)
     rw [cut_app] at hap;have ho3:=nb_objs (xs:=ub (out++cut s jj (jj+(nx s jj).2))) (o:=lxO s jj d) hL;have hst:=lx_set ho3 (jj+(nx s jj).2:Int);have e:((jj:Int)+(nx s jj).2)=((jj+(nx s jj).2:Nat):Int):=by omega
     have fin:k<s.size+1∧∃ (o:List UInt8) (j1:Nat),fr+1+(k+1)≤j1∧j1≤s.size∧o.length≤j1∧(nrow 5 1 (ub (out++cut s jj (jj+(nx s jj).2))) (h.set L (lxO s jj d))).2.set L (lxO s ((jj:Int)+(nx s jj).2) d)=(nrow 5 1 (ub o) (h.set L (lxO s j1 d))).2∧(nrow 5 1 (ub (out++cut s jj (jj+(nx s jj).2))) (h.set L (lxO s jj d))).1=(nrow 5 1 (ub o) (h.set L (lxO s j1 d))).1∧txt s fr j1 o=txt s fr (jj+(nx s jj).2) (out++cut s jj (jj+(nx s jj).2)) :=
       ⟨by omega,out++cut s jj (jj+(nx s jj).2),jj+(nx s jj).2,by omega,by omega,by simp; omega,by rw [e,nb_set hL],nb_fst,rfl⟩
     rcases two with h2|h2
     · simp -implicitDefEqProofs (disch:=omega) [-storeD,-load_ptr,-nilCheckD,-fieldAddrD,-H.els,lx_s ho,lx_at ho,lx_nil ho,lx_f0 ho,lx_f1 ho,lx_s ho2,lx_at ho2,lx_nil ho2,lx_f0 ho2,lx_f1 ho2,lx_at ho3,lx_nil ho3,lx_f1 ho3,e0,e4,e5,Wp_some,hb,g34,h92,hl',g0,g00,hb1,h2,e1,hst2,q116,q142,g1,g2,hap,hst]
       exact fin
     · simp -implicitDefEqProofs (disch:=omega) [-storeD,-load_ptr,-nilCheckD,-fieldAddrD,-H.els,lx_s ho,lx_at ho,lx_nil ho,lx_f0 ho,lx_f1 ho,lx_s ho2,lx_at ho2,lx_nil ho2,lx_f0 ho2,lx_f1 ho2,lx_at ho3,lx_nil ho3,lx_f1 ho3,e0,e4,e5,Wp_some,hb,g34,h92,hl',g0,g00,hb1,h2,e1,hst2,q116,q142,g1,g2,hap,hst]
       exact fin
   · rw [dif_neg hc]
     have hcf:charB (nx s (j+1)).1=false:=by simpa using hc
     rw [hcf] at q142;generalize hjj:j+1=jj at *;rcases two with h2|h2
     · simp -implicitDefEqProofs (disch:=omega) [-storeD,-load_ptr,-nilCheckD,-fieldAddrD,-H.els,lx_s ho,lx_at ho,lx_nil ho,lx_f0 ho,lx_f1 ho,lx_s ho2,lx_at ho2,lx_nil ho2,lx_f0 ho2,lx_f1 ho2,e0,e4,e5,Wp_some,hb,g34,h92,hl',g0,g00,hb1,h2,e1,hst2,q116,q142]
       exact ⟨out,jj,rfl⟩
     · simp -implicitDefEqProofs (disch:=omega) [-storeD,-load_ptr,-nilCheckD,-fieldAddrD,-H.els,lx_s ho,lx_at ho,lx_nil ho,lx_f0 ho,lx_f1 ho,lx_s ho2,lx_at ho2,lx_nil ho2,lx_f0 ho2,lx_f1 ho2,e0,e4,e5,Wp_some,hb,g34,h92,hl',g0,g00,hb1,h2,e1,hst2,q116,q142]
       exact ⟨out,jj,rfl⟩
 · rw [txt,if_neg hj,if_neg (by omega),if_neg (by omega)]
   have q116:=fun h=>c116 (c:=122) s j h (by omega) rfl
   have q142:=fun h=>c142 (c:=122) (nx s j).1 h rfl
   have g34:eqI (b.toNat:Int) 34=false:=eqI_false (by omega)
   have g92:eqI (b.toNat:Int) 92=false:=eqI_false (by omega)
   by_cases hc:charB (nx s j).1=true
   · rw [dif_pos hc]
     have hnc:=nx_char hc;rw [hc] at q142;have g1:((j:Int)+(nx s j).2).toNat=j+(nx s j).2:=by omega
     have g2:=sl_str (s:=s) (a:=j) (b:=(j:Int)+(nx s j).2);have hap:=nb_app (h:=h.set L (lxO s j d)) (out:=out) (s.extract j (j+(nx s j).2)) (by
       have:(s.extract j (j+(nx s j).2)).size=(nx s j).2:=by simp [ByteArray.size_extract]; omega
       omega)
     rw [cut_app] at hap;have ho3:=nb_objs (xs:=ub (out++cut s j (j+(nx s j).2))) (o:=lxO s j d) hL;have hst:=lx_set ho3 (j+(nx s j).2:Int);simp -implicitDefEqProofs (disch:=omega) [-storeD,-load_ptr,-nilCheckD,-fieldAddrD,-H.els,lx_s ho,lx_at ho,lx_nil ho,lx_f0 ho,lx_f1 ho,lx_at ho3,lx_nil ho3,lx_f1 ho3,e0,e4,e5,Wp_some,hb,g34,g92,q116,q142,g1,g2,hap,hst];have e:((j:Int)+(nx s j).2)=((j+(nx s j).2:Nat):Int):=by omega
     have hcl:=cut_len (s:=s) (i:=j) (j:=j+(nx s j).2) hnc.2;exact ⟨by omega,out++cut s j (j+(nx s j).2),j+(nx s j).2,by omega,by omega,by simp; omega,by rw [e,nb_set hL],nb_fst,rfl⟩
   · rw [dif_neg hc]
     have hcf:charB (nx s j).1=false:=by simpa using hc
     rw [hcf] at q142;simp -implicitDefEqProofs (disch:=omega) [-storeD,-load_ptr,-nilCheckD,-fieldAddrD,-H.els,lx_s ho,lx_at ho,lx_nil ho,lx_f0 ho,lx_f1 ho,e0,e4,e5,Wp_some,hb,g34,g92,q116,q142];exact ⟨out,j,rfl⟩
theorem len_new {b:H}{out:List UInt8}:lenD Tryz.prog (nrow 5 1 (ub out) b).2 163 (nrow 5 1 (ub out) b).1=some (.t (.int .i64 out.length)):=by
 unfold nrow;split
 · rename_i e
   have:out=[]:=by cases out with
    | nil=>rfl
    | cons x l=>simp [ub] at e
   subst this;simp [lenD]
 · simp [lenD,ub_len]
theorem conv_new {b:H}{out:List UInt8}:convD Tryz.prog (nrow 5 1 (ub out) b).2 163 9 (nrow 5 1 (ub out) b).1=some (.t (.str ⟨out.toArray⟩)):=by
 have h1:=snap_new (h:=b) (bt:=5) (s:=1) (xs:=ub out);have hs:sl (ub out) = .nilSlice∧out=[]∨sl (ub out) = .slice (ub out):=by
  cases out with
  | nil=>exact .inl ⟨rfl,rfl⟩
  | cons x l=>exact .inr (sl_cons (by simp [ub]))
 have hd:(nrow 5 1 (ub out) b).1 = .t .nilSlice∨∃ a c e f,(nrow 5 1 (ub out) b).1 = .row a c e f:=by
  unfold nrow; split
  · exact .inl rfl
  · exact .inr ⟨_,_,_,_,rfl⟩
 have key:∀ (hh:H) (d:D),(d = .t .nilSlice∨∃ a c e f,d = .row a c e f)→snap hh d=some (sl (ub out))→convD Tryz.prog hh 163 9 d=some (.t (.str ⟨out.toArray⟩)):=by
  intro hh d hd hsn;rcases hd with rfl|⟨a,c,e,f,rfl⟩<;>unfold convD<;>simp only [tk163,tk9,hsn]<;>rcases hs with ⟨e,rfl⟩|e
  · rw [e]; simp
  · rw [e]; simp [byteOf_ub]
  · rw [e]; simp
  · rw [e]; simp [byteOf_ub]
 exact key _ _ hd h1
theorem LX.nrow {n:Nat}{h:H}{L:Nat}{s:ByteArray}{i:Nat}{ts:List T}(hl:LX n h L s i ts)(xs:List T):LX n (Vai.nrow 5 1 xs h).2 L s i ts∧Fr n h (Vai.nrow 5 1 xs h).2:=by
 unfold Vai.nrow;split
 · exact ⟨hl,Fr.refl _ _⟩
 · exact hl.push _
theorem s122 {n:Nat}{h:H}{L:Nat}{s:ByteArray}{i:Nat}{ts:List T}(hl:LX n h L s i ts)(hlen:ts.length≤1000000)(hs:s.size≤100000)(hi:i<s.size) :
  Steps n h L s ts (call cx prim 122 [.ptr L 0 0 1] h) (match txt s i (i+1) [] with
    | .ok (out,e)=>if 64<out.length then .error (i,3) else .ok (⟨2,⟨out.toArray⟩,0,i⟩,e+1)
    | .error f=>.error f):=by
 rw [call_run rfl Tryz.func122 ok122 nd122 rfl (lbe rfl) rfl rfl];obtain ⟨d,ho,_,_⟩:=hl.move i;have hmv:∀ j:Nat,LX n (h.set L (lxO s j d)) L s j ts∧Fr n h (h.set L (lxO s j d)):=fun j=>by
  obtain ⟨d',ho',a,b⟩:=hl.move j;rw [ho] at ho';have e:lxO s i d=lxO s i d':=Option.some.inj ho';have e2:d=d':=by
    simp only [lxO,AObj.row.injEq,List.cons.injEq,true_and,and_true] at e;have:=congrArg D.cells e;rw [mkAgg_cells,mkAgg_cells] at this;simpa using this
  rw [e2];exact ⟨a,b⟩
 have hL:L<h.next:=hl.2.1
 have hst:=lx_set ho (i+1:Int);have lemL:=fun (st:St) (r:CR)=>l122 (h:=h) (L:=L) (s:=s) (fr:=i) (d:=d) (st:=st) (r:=r) hL hs hi
 simp -implicitDefEqProofs (disch:=omega) [-storeD,-load_ptr,-nilCheckD,-fieldAddrD,-H.els,lx_s ho,lx_at ho,lx_nil ho,lx_f0 ho,lx_f1 ho,hst];generalize hLp:loopω _ _=R;obtain ⟨x,⟨nn,env,h2⟩,rfl,rfl,out,j,rfl,hm⟩:=lemL _ _ hLp rfl (by simp) (by simp) (by simp) (by simp)
 cases htx:txt s i (i+1) [] with
 | error f =>
  obtain ⟨a,w⟩:=f;rw [htx] at hm;simp only at hm ⊢;obtain ⟨_,f1⟩:=(hmv j).1.nrow (ub out);have f2:=(hmv j).2.trans f1;rcases hm with ⟨rfl,e2,e3⟩|⟨rfl,hj,rfl,rfl,e0,e4⟩
  · simp only [Steps]
    simp -implicitDefEqProofs (disch:=omega) [e2,e3];exact f2
  · simp only [Steps]
    have ho2:=nb_objs (xs:=ub out) (o:=lxO s j d) hL;simp -implicitDefEqProofs (disch:=omega) [-storeD,-load_ptr,-nilCheckD,-fieldAddrD,-H.els,lx_s ho2,lx_at ho2,lx_nil ho2,lx_f0 ho2,lx_f1 ho2,e0,e4];exact f2
 | ok oe =>
  obtain ⟨o,e⟩:=oe;rw [htx] at hm;simp only at hm ⊢;obtain ⟨rfl,rfl,rfl,hj,e0,e4,e5⟩:=hm;have ho2:=nb_objs (xs:=ub o) (o:=lxO s e d) hL;obtain ⟨_,f1⟩:=(hmv e).1.nrow (ub o);have f2:=(hmv e).2.trans f1;have lN:=len_new (b:=h.set L (lxO s e d)) (out:=o);by_cases h64:64<o.length
  · rw [if_pos h64]
    simp only [Steps];simp -implicitDefEqProofs (disch:=omega) [-storeD,-load_ptr,-nilCheckD,-fieldAddrD,-H.els,lx_s ho2,lx_at ho2,lx_nil ho2,lx_f0 ho2,lx_f1 ho2,e0,e4,e5,lN];exact f2
  · rw [if_neg h64]
    simp only [Steps];have hst2:=lx_set ho2 (e+1:Int);have e1:((e:Int)+1)=((e+1:Nat):Int):=by omega
    have cv:=conv_new (b:=h.set L (lxO s (e+1:Nat) d)) (out:=o);obtain ⟨g1,g2⟩:=(hmv (e+1)).1.nrow (ub o);obtain ⟨h',q,q2,q3,_⟩:=c120 (c:=122) g1 hlen ⟨2,⟨o.toArray⟩,0,i⟩;have hst3:storeD Tryz.prog (nrow 5 1 (ub o) (h.set L (lxO s e d))).2 3 (.ptr L 0 1 1) (.t (.int .i64 ((e:Int)+1)))=some (nrow 5 1 (ub o) (h.set L (lxO s (e+1:Nat) d))).2:=by
     rw [hst2,e1,nb_set hL]
    rw [nb_fst (o':=lxO s (e+1:Nat) d)] at e5 lN;simp only [Tk.t] at q;simp only [←e1] at e5 lN hst3 cv q;simp -implicitDefEqProofs (disch:=omega) [-storeD,-load_ptr,-nilCheckD,-fieldAddrD,-H.els,lx_s ho2,lx_at ho2,lx_nil ho2,lx_f0 ho2,lx_f1 ho2,e0,e4,e5,lN,hst3,cv,q];exact ⟨q2,((hmv (e+1)).2.trans g2).trans q3⟩
theorem Steps.any {n:Nat}{h:H}{L:Nat}{s:ByteArray}{ts:List T}{r:Option (D × H)}{e:Except (Nat × Int) (Tk × Nat)}(hs:Steps n h L s ts r e):∃ (a:Nat) (w:Int) (h':H),r=some (.tup [.t (.int .i64 a),.t (.int .i64 w)],h'):=by
 cases e with
 | ok x=>obtain ⟨t,j⟩:=x; obtain ⟨h',q,_⟩:=hs; exact ⟨0,0,h',q⟩
 | error x=>obtain ⟨a,w⟩:=x; obtain ⟨h',q,_⟩:=hs; exact ⟨a,w,h',q⟩
theorem Steps.of {n:Nat}{h:H}{L:Nat}{s:ByteArray}{ts:List T}{r r':Option (D × H)}{e:Except (Nat × Int) (Tk × Nat)}(hs:Steps n h L s ts r e)(hr:r'=r):Steps n h L s ts r' e:=hr ▸ hs
theorem s73 {n:Nat}{h:H}{L:Nat}{s:ByteArray}{i:Nat}{ts:List T}(hl:LX n h L s i ts)(hlen:ts.length≤1000000)(hs:s.size≤100000)(hi:i<s.size) :
   Steps n h L s ts (call cx prim 73 [.ptr L 0 0 1] h) (tok1 s i):=by
 rw [call_run rfl Tryz.func73 ok73 nd73 rfl (lbe rfl) rfl rfl];obtain ⟨d,ho⟩:=lx_isAt hl;obtain ⟨b,hb,hbt⟩:=bt_get (s:=s) (i:=i) hi;have c1:(i:Int)<s.size:=by omega
 have q117:=fun h=>c117 (c:=73) b.toNat h rfl
 have q119:=fun h=>c119 (c:=73) b.toNat h rfl
 unfold tok1;rw [hbt];by_cases hd:digitB b.toNat=true
 · have S:=s118 hl hlen (by omega) hi (by rw [hbt]; exact hd)
   rw [if_pos hd];rw [hd] at q117;obtain ⟨a,w,h',q⟩:=S.any;have k31:=keepT (cc:=cx.at 73) cb118 (by simp [md]) q
   rw [q] at S;refine S.of ?_;simp -implicitDefEqProofs (disch:=omega) [-storeD,-load_ptr,-nilCheckD,-fieldAddrD,-H.els,lx_s ho,lx_at ho,lx_nil ho,lx_f0 ho,lx_f1 ho,hb,q117,k31]
 rw [if_neg hd];have hd':digitB b.toNat=false:=by simpa using hd
 rw [hd'] at q117;by_cases hlt:letterB b.toNat=true
 · rw [if_pos hlt]
   rw [hlt] at q119;obtain ⟨d',ho',hl2,hfr⟩:=hl.move (runTo wordB s i);rw [ho] at ho';have e:lxO s i d=lxO s i d':=Option.some.inj ho';have w:=keepT (cc:=cx.at 73) cb71 (by simp [md]) (s71 (p:=121) (fun b h=>c121 b h rfl) ho (by omega) (by omega))
   obtain ⟨h',r1,r2,r3,_⟩:=c120 (c:=73) hl2 hlen ⟨3,s.extract i (runTo wordB s i),0,i⟩;have ed:d=d':=by
    simp only [lxO,AObj.row.injEq,List.cons.injEq,true_and,and_true] at e;have:=congrArg D.cells e;rw [mkAgg_cells,mkAgg_cells] at this;simpa using this
   subst ed;simp only [Tk.t] at r1;simp only [Steps];simp -implicitDefEqProofs (disch:=omega) [-storeD,-load_ptr,-nilCheckD,-fieldAddrD,-H.els,lx_s ho,lx_at ho,lx_nil ho,lx_f0 ho,lx_f1 ho,hb,q117,q119,w,r1];exact ⟨r2,hfr.trans r3⟩
 rw [if_neg hlt];have hlt':letterB b.toNat=false:=by simpa using hlt
 rw [hlt'] at q119;by_cases h34:b.toNat=34
 · rw [if_pos h34]
   have S:=s122 hl hlen hs hi;obtain ⟨a,w,h',q⟩:=S.any;have k35:=keepT (cc:=cx.at 73) cb122 (by simp [md]) q
   rw [q] at S;refine S.of ?_;simp only [h34,show ((34:Nat):Int)=34 from rfl] at q117 q119
   simp -implicitDefEqProofs (disch:=omega) [-storeD,-load_ptr,-nilCheckD,-fieldAddrD,-H.els,lx_s ho,lx_at ho,lx_nil ho,lx_f0 ho,lx_f1 ho,hb,h34,q117,q119,k35]
 · rw [if_neg h34]
   have S:=s123 hl hlen (by omega) hi
   have e34:eqI (b.toNat:Int) 34=false:=eqI_false (by omega)
   obtain ⟨a,w,h',q⟩:=S.any;have k36:=keepT (cc:=cx.at 73) cb123 (by simp [md]) q
   rw [q] at S;refine S.of ?_;simp -implicitDefEqProofs (disch:=omega) [-storeD,-load_ptr,-nilCheckD,-fieldAddrD,-H.els,lx_s ho,lx_at ho,lx_nil ho,lx_f0 ho,lx_f1 ho,hb,e34,q117,q119,k36]
end Go.Proofs.YtaldobgfbkllfaaGreatDoor

namespace Vai
open Go
theorem txt_err {s:ByteArray}{fr i:Nat}{out:List UInt8}{a:Nat}{w:Int}(h:txt s fr i out = .error (a,w)):w≠0:=by
 fun_induction txt s fr i out with
 | case1=>cases h; decide
 | case2 i out h1 h2=>cases h
 | case3=>cases h; decide
 | case4=>cases h; decide
 | case5 i out h1 h2 h3 h4 h5 hc ih=>exact ih h
 | case6=>cases h; decide
 | case7 i out h1 h2 h3 hc ih=>exact ih h
 | case8=>cases h; decide
theorem tok1_err {s:ByteArray}{i a:Nat}{w:Int}(h:tok1 s i = .error (a,w)):w≠0:=by
 unfold tok1 at h;split at h
 · split at h
   · cases h
   · cases h; decide
 split at h
 · cases h
 split at h
 · split at h
   · split at h
     · cases h; decide
     · cases h
   · rename_i f ht
     cases h;exact txt_err ht
 split at h
 · cases h; decide
 · cases h
end Vai
namespace Go.Proofs.YtaldobgfbkllfaaGreatDoor
open Vai
variable [Gl]
set_option maxHeartbeats 0
set_option maxRecDepth 100000
def TB (n:Nat)(h:H)(l:List Tk)(d:D):Prop:=(l=[]∧d = .t .nilSlice)∨∃ id,n≤id∧id<h.next∧d = .row id 0 l.length l.length∧h.objs id=some (.row 134 4 (l.map fun t=>.t t.t))
theorem l39 {n:Nat}{h:H}{L:Nat}{s:ByteArray}(hs:s.size≤256){st:St}{r:CR}(hLp:loopω (LB cx prim 39 Tryz.f39 0) st=r)(en:st.n=44)(e0:st.env 0 = .t (.str s))(e6:st.env 6 = .ptr L 0 0 1)(eh:LX n st.h L s (runTo blankB s 0) [])(hf:Fr n h st.h) :
   ∃ x st',r=some (x,st')∧st'.n=44∧Fr n h st'.h∧(match toks s 0 [] with
    | .ok l=>x = .exit 0∧st'.env 6 = .ptr L 0 0 1∧∃ p,LX n st'.h L s p (l.map Tk.t)
    | .error (a,w)=>x = .ret∧st'.env 2 = .t .nilSlice∧st'.env 3 = .t (.int .i64 a)∧st'.env 4 = .t (.int .i64 w)):=by
 have hle0:=runTo_le (p:=blankB) (s:=s) (i:=0) (by omega)
 refine loop_uses hLp (s.size+1) (fun k st=>st.n=44∧st.env 0 = .t (.str s)∧st.env 6 = .ptr L 0 0 1∧Fr n h st.h∧∃ (l:List Tk) (i:Nat),i≤s.size∧k≤runTo blankB s i∧l.length≤runTo blankB s i∧toks s i l=toks s 0 []∧LX n st.h L s (runTo blankB s i) (l.map Tk.t)) _ ⟨en,e0,e6,hf,[],0,by omega,by omega,by simp,rfl,eh⟩ ?_
 rintro k ⟨nn,env,h2⟩ hk ⟨rfl,e0,e6,hf,l,i,hi,hki,hll,ht,hl⟩;simp only at e0 e6 hf hl;rw [LB_run nd39 rfl];obtain ⟨d,ho⟩:=lx_isAt hl;have hle:=runTo_le (p:=blankB) hi;have hge:=runTo_ge blankB s i;rw [←ht,toks];clear ht;generalize runTo blankB s i=p at hki hll hl ho hle hge;by_cases hp:s.size≤p
 · rw [if_pos hp]
   have c1:¬ (p:Int)<s.size:=by omega
   simp -implicitDefEqProofs (disch:=omega) [-storeD,-load_ptr,-nilCheckD,-fieldAddrD,-H.els,lx_s ho,lx_at ho,lx_nil ho,lx_f0 ho,lx_f1 ho,e0,e6,Wp_some];exact ⟨hf,p,hl⟩
 rw [if_neg hp];have c1:(p:Int)<s.size:=by omega
 have S:=s73 hl (by simp; omega) (by omega) (by omega:p<s.size)
 cases htk:tok1 s p with
 | error f =>
   obtain ⟨a,w⟩:=f;rw [htk] at S;simp only;obtain ⟨h',q,hf2⟩:=S;have hw:=tok1_err htk;have hw':eqI w 0=false:=eqI_false hw;have k20:=keepT (cc:=cx.at 39) cb73 (by simp [md]) q
   simp -implicitDefEqProofs (disch:=omega) [-storeD,-load_ptr,-nilCheckD,-fieldAddrD,-H.els,lx_s ho,lx_at ho,lx_nil ho,lx_f0 ho,lx_f1 ho,e0,e6,Wp_some,k20,hw'];exact hf.trans hf2
 | ok tj =>
   obtain ⟨t,j⟩:=tj;rw [htk] at S;obtain ⟨hpj,hj⟩:=tok1_gt (by omega) htk
   simp only;rw [dif_pos ⟨by omega,by omega⟩]
   obtain ⟨h',q,hl2,hf2⟩:=S;have k20:=keepT (cc:=cx.at 39) cb73 (by simp [md]) q
   obtain ⟨d',ho',hl3,hf3⟩:=hl2.move (runTo blankB s j);have w:=keepT (cc:=cx.at 39) cb71 (by simp [md]) (s71 (p:=72) (fun b h=>c72 b h rfl) ho' (by omega) hj)
   simp -implicitDefEqProofs (disch:=omega) [-storeD,-load_ptr,-nilCheckD,-fieldAddrD,-H.els,lx_s ho,lx_at ho,lx_nil ho,lx_f0 ho,lx_f1 ho,e0,e6,Wp_some,k20,w];have hge2:=runTo_ge blankB s j;exact ⟨by omega,hf.trans (hf2.trans hf3),l ++ [t],j,hj,by omega,by simp; omega,rfl,by simpa using hl3⟩
theorem s39 {h:H}(hm:h.marks=[])(s:ByteArray)(hs:s.size≤1000000000):∃ d h',call cx prim 39 [.t (.str s)] h=some (.tup [d,.t (.int .i64 (lexS s).2.1),.t (.int .i64 (lexS s).2.2)],h')∧Fr h.next h h'∧TB h.next h' (lexS s).1 d:=by
 rw [call_run rfl Tryz.func39 ok39 nd39 rfl (lbe rfl) rfl rfl];unfold lexS;by_cases h1:256<s.size
 · rw [if_pos h1]
   simp -implicitDefEqProofs (disch:=omega) [];exact ⟨_,_,⟨rfl,rfl⟩,Fr.refl _ _,.inl ⟨rfl,rfl⟩⟩
 rw [if_neg h1];have h1':¬ (256:Int)<s.size:=by omega
 have q70:=fun h=>c70 (c:=39) s h hs rfl
 by_cases h2:0≤bad s 0
 · rw [if_pos h2]
   simp -implicitDefEqProofs (disch:=omega) [q70];exact ⟨_,_,⟨rfl,rfl⟩,Fr.refl _ _,.inl ⟨rfl,rfl⟩⟩
 rw [if_neg h2];have hl0:LX h.next (h.push (lxO s 0 (.t .nilSlice))) h.next s 0 []:=⟨Nat.le_refl _,by simp,hm,by simp,.t .nilSlice,by simp,.inl ⟨rfl,rfl⟩⟩
 have hf0:Fr h.next h (h.push (lxO s 0 (.t .nilSlice))):=Fr.push (Nat.le_refl _)
 obtain ⟨d',ho',hl3,hf3⟩:=hl0.move (runTo blankB s 0);have w:=keepT (cc:=cx.at 39) cb71 (by simp [md]) (s71 (p:=72) (fun b h=>c72 b h rfl) ho' (by omega) (by omega))
 have lemL:=fun (st:St) (r:CR)=>l39 (n:=h.next) (h:=h) (L:=h.next) (s:=s) (st:=st) (r:=r) (by omega)
 have hbox:h.push (.row 120 3 [.t (.agg [.str s,.int .i64 0,.nilSlice])])=h.push (lxO s 0 (.t .nilSlice)):=rfl;simp -implicitDefEqProofs (disch:=omega) [-storeD,-load_ptr,-nilCheckD,-fieldAddrD,-H.els,q70,hbox,w];generalize hLp:loopω _ _=R;obtain ⟨x,⟨nn,env,h2⟩,rfl,rfl,hf,hmm⟩:=lemL _ _ hLp rfl (by simp) (by simp) (by simpa using hl3) (by simpa using hf0.trans hf3)
 cases htk:toks s 0 [] with
 | error f =>
   obtain ⟨a,w⟩:=f;rw [htk] at hmm;obtain ⟨rfl,e2,e3,e4⟩:=hmm;simp only at e2 e3 e4;simp -implicitDefEqProofs (disch:=omega) [-storeD,-load_ptr,-nilCheckD,-fieldAddrD,-H.els,e2,e3,e4];exact ⟨_,_,⟨rfl,rfl⟩,hf,.inl ⟨rfl,rfl⟩⟩
 | ok l =>
   rw [htk] at hmm;obtain ⟨rfl,e6,p,hl⟩:=hmm;simp only at e6 hl;obtain ⟨g1,g2,g3,g4,d,ho,g5⟩:=hl;simp -implicitDefEqProofs (disch:=omega) [-storeD,-load_ptr,-nilCheckD,-fieldAddrD,-H.els,lx_out ho,lx_nil ho,lx_f2 ho,e6];refine ⟨_,_,⟨rfl,rfl⟩,hf,?_⟩;rcases g5 with ⟨rfl,g5⟩|⟨id,u1,u2,u3,u4⟩
   · exact .inl ⟨by simpa using g5,rfl⟩
   · exact .inr ⟨id,u1,u2,by simpa using u3,by rw [List.map_map] at u4; exact u4⟩
end Go.Proofs.YtaldobgfbkllfaaGreatDoor

namespace Vai
open Go
def two12:ByteArray:=⟨#[61,61,33,61,60,61,62,61,38,38,124,124]⟩
def one12:ByteArray:=⟨#[43,45,42,47,37,40,41,63,58,33,60,62]⟩
def oneQ (s:ByteArray)(i:Nat):Prop:=bt s i=43∨bt s i=45∨bt s i=42∨bt s i=47∨bt s i=37∨bt s i=40∨bt s i=41∨bt s i=63∨bt s i=58∨bt s i=33∨bt s i=60∨bt s i=62
instance (s:ByteArray) (i:Nat):Decidable (oneQ s i):=by unfold oneQ; infer_instance
end Vai
namespace Go.Proofs.YtaldobgfbkllfaaGreatDoor
open Vai
variable [Gl]
set_option maxHeartbeats 0
set_option maxRecDepth 100000
end Go.Proofs.YtaldobgfbkllfaaGreatDoor

namespace Go.Proofs.YtaldobgfbkllfaaGreatDoor
open Vai
variable [Gl]
set_option maxHeartbeats 0
set_option maxRecDepth 100000
def fltT (a w:Int):T:=.agg [.int .i64 a,.int .i64 w]
def flt (a w:Int):AObj:=.row 64 2 [.t (.agg [.int .i64 a,.int .i64 w])]
section
variable {h:H}{K:Nat}{a w:Int}(ho:h.objs K=some (flt a w))
include ho
end
end Go.Proofs.YtaldobgfbkllfaaGreatDoor
