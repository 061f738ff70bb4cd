import Derived.Test.YtaldobgfbkllfaaGreatDoorVaiSj
import Derived.Test.YtaldobgfbkllfaaGreatDoorVaiSh
import Derived.Test.YtaldobgfbkllfaaGreatDoorVaiSe
import Derived.Test.YtaldobgfbkllfaaGreatDoorVaiE
set_option linter.unusedSimpArgs false
set_option linter.unusedVariables false
set_option linter.unusedSectionVars false
namespace Vai
open Go
theorem toks_end {s:ByteArray}{i:Nat}{l:List Tk}(h:s.size≤i):toks s i l = .ok l:=by
 have:=runTo_ge blankB s i;rw [toks,if_pos (by omega)]
theorem toks_blank {s:ByteArray}{i:Nat}{l:List Tk}(h:i<s.size)(hb:blankB (bt s i)=true):toks s i l=toks s (i+1) l:=by
 have e:=runTo_step (p:=blankB) h hb;rw [toks];by_cases h2:i+1<s.size
 · conv=>rhs; rw [toks]
   rw [e];by_cases h1:s.size≤runTo blankB s i
   · rw [if_pos h1,if_pos h1]
   rw [if_neg h1,if_neg h1]
   cases ht:tok1 s (runTo blankB s i) with
   | error f=>rfl
   | ok tj =>
     obtain ⟨t,j⟩:=tj;have hgt:=tok1_gt (by omega) ht
     have hge:=runTo_ge blankB s (i+1);simp only;rw [dif_pos ⟨by omega,h⟩,dif_pos ⟨by omega,h2⟩]
 · have h3:s.size≤runTo blankB s i:=by
     have:=runTo_ge blankB s (i+1);omega
   rw [if_pos h3,toks_end (by omega)]
theorem toks_step {s:ByteArray}{i:Nat}{l:List Tk}(h:i<s.size)(hb:blankB (bt s i)=false):toks s i l=match tok1 s i with
  | .error f=>.error f
  | .ok (t,j)=>toks s j (l ++ [t]):=by
 have e:=runTo_stop (p:=blankB) (s:=s) (i:=i) (by rw [hb]; simp)
 rw [toks,e,if_neg (by omega)]
 cases ht:tok1 s i with
 | error f=>rfl
 | ok tj =>
  obtain ⟨t,j⟩:=tj;have hgt:=tok1_gt (by omega) ht
  simp only;rw [dif_pos ⟨by omega,h⟩]
end Vai
namespace Go.Proofs.YtaldobgfbkllfaaGreatDoor
open Vai
variable [Gl]
set_option maxHeartbeats 0
set_option maxRecDepth 100000
def RB (h:H)(d:D)(l:List Tk):Prop:=TR h d l∧h.marks=[]∧0<h.next∧h.objs 0=some (flt 0 0)
theorem RB.add {h:H}{d:D}{l:List Tk}(hr:RB h d l)(hlen:l.length≤1000000)(t:Tk):∃ d' h',appendD Tryz.prog h 80 d (.t (.slice [t.t]))=some (d',h')∧RB h' d' (l ++ [t]):=by
 obtain ⟨h1,h2,h3,h4⟩:=hr;obtain ⟨d',h',q,r1,r2,r3,r4⟩:=tok_add h1 h2 hlen t;exact ⟨d',h',q,r1,r3,by omega,r4 0 _ _ h3 h4⟩
theorem l49 {s:ByteArray}(hs:s.size≤100000){st:St}{r:CR}(hLp:loopω (LB cx prim 49 Tryz.f49 0) st=r)(en:st.n=140)(e0:st.env 0 = .t (.str s))(e3:st.env 3 = .ptr 0 0 0 1)(e5:st.env 5 = .t (.int .i64 0))(eh:RB st.h (st.env 4) []) :
   ∃ x st',r=some (x,st')∧st'.n=140∧st'.env 3 = .ptr 0 0 0 1∧(match toks s 0 [] with
       | .ok l=>x = .exit 0∧RB st'.h (st'.env 4) l
       | .error (a,w)=>x = .ret∧st'.env 2 = .t .nilSlice∧st'.h.objs 0=some (flt a w)):=by
 refine loop_uses hLp (s.size+1) (fun k st=>st.n=140∧st.env 0 = .t (.str s)∧st.env 3 = .ptr 0 0 0 1∧∃ (l:List Tk) (i:Nat),i≤s.size∧k≤i∧l.length≤i∧st.env 5 = .t (.int .i64 i)∧toks s i l=toks s 0 []∧RB st.h (st.env 4) l) _ ⟨en,e0,e3,[],0,by omega,by omega,by simp,e5,rfl,eh⟩ ?_
 rintro k ⟨nn,env,h2⟩ hk ⟨rfl,e0,e3,l,i,hi,hki,hll,e5,ht,hb⟩;simp only at e0 e3 e5 hb;rw [LB_run nd49 rfl];rw [←ht];clear ht;by_cases hp:s.size≤i
 · rw [toks_end hp]
   have c1:¬ (i:Int)<s.size:=by omega
   simp -implicitDefEqProofs (disch:=omega) [e0,e3,e5,Wp_some];exact hb
 obtain ⟨b,hbb,hbt⟩:=bt_get (s:=s) (i:=i) (by omega)
 have c1:(i:Int)<s.size:=by omega
 have q85:=fun h=>c85 (c:=49) b.toNat h rfl
 by_cases hbl:blankB b.toNat=true
 · rw [toks_blank (by omega) (by rw [hbt]; exact hbl)]
   rw [hbl] at q85;simp -implicitDefEqProofs (disch:=omega) [e0,e3,e5,hbb,q85,Wp_some];exact ⟨by omega,l,i+1,by omega,by omega,by omega,by omega,rfl,hb⟩
 have hbl':blankB b.toNat=false:=by simpa using hbl
 rw [toks_step (by omega) (by rw [hbt]; exact hbl')]
 rw [hbl'] at q85;have q86:=fun h=>c86 (c:=49) b.toNat h rfl
 have q88:=fun h=>c88 (c:=49) b.toNat h rfl
 have fst:=fl_st hb.2.2.2;unfold tok1;rw [hbt];by_cases hd:digitB b.toNat=true
 · rw [if_pos hd]
   rw [hd] at q86;have lemL:=fun (d v7:D) (h:H) (st:St) (r:CR)=>l10a (d:=d) (v7:=v7) (h:=h) hs hi (st:=st) (r:=r)
   simp -implicitDefEqProofs (disch:=omega) [-storeD,-load_ptr,-H.els,e0,e3,e5,hbb,q85,q86,Wp_some];generalize hLp2:loopω (LB cx prim 49 Tryz.f49 2) _=R;obtain ⟨x',⟨nn,env2,h3⟩,rfl,rfl,rfl,e0,e3,e4,e5,e7,rfl⟩:=lemL (env 4) (.t (.int .i64 i)) h2 _ _ hLp2 rfl (by simp [e0]) (by simp [e3]) (by simp) (by simp [e5]) (by simp) rfl
   simp only at e0 e3 e4 e5 e7;have hge:=runTo_ge digitB s (i+1);rw [runTo_step (by omega) (by rw [hbt]; exact hd)] at hge
   have hle:=runTo_le (p:=digitB) (s:=s) (i:=i) (by omega)
   have hall:=cut_all (p:=digitB) (s:=s) (i:=i);have hcl:=cut_len (i:=i) hle;have hex:=extract_cut (s:=s) (i:=i) (j:=runTo digitB s i) (by omega)
   clear hLp2 lemL;generalize runTo digitB s i=j at hge hle hall hcl hex e5 ⊢;have hne:cut s i j≠[]:=fun e=>by rw [e] at hcl; simp at hcl; omega
   obtain ⟨n,ok,q87,hn⟩:∃ n ok,(∀ h,callD (cx.at 49) (call cx prim) 87 [.t (.str ⟨(cut s i j).toArray⟩)] h=some (.tup [.t (.int .i64 n),.t (.bool ok)],h))∧numS (cut s i j)=if ok=true then some n else none:=by
     obtain ⟨n,ok,h',q,e⟩:=s87 hne (by omega) hall
     exact ⟨n,ok,fun h=>pureT cb87 rfl q (by simp [snapOut]) rfl,e⟩
   have g2:=sl_str (s:=s) (a:=i) (b:=(j:Int));have g3:((j:Int)).toNat=j:=by omega
   rw [hn]
   cases ok with
   | false =>
     simp -implicitDefEqProofs (disch:=omega) [-storeD,-load_ptr,-H.els,e0,e3,e4,e5,e7,g2,hex,q87,fst,Wp_some]
   | true =>
     obtain ⟨d',h',qa,ra⟩:=hb.add (by omega) ⟨1,noText,n,i⟩
     simp only [Tk.t,noText] at qa;simp -implicitDefEqProofs (disch:=omega) [-storeD,-load_ptr,-H.els,e0,e3,e4,e5,e7,g2,hex,q87,fst,Wp_some,litSliceD,List.replicate,qa];exact ⟨by omega,l ++ [⟨1,noText,n,i⟩],j,by omega,by omega,by simp; omega,rfl,rfl,ra⟩
 rw [if_neg hd];have hd':digitB b.toNat=false:=by simpa using hd
 rw [hd'] at q86;by_cases hlt:letterB b.toNat=true
 · rw [if_pos hlt]
   rw [hlt] at q88;have lemL:=fun (d v7:D) (h:H) (st:St) (r:CR)=>l10b (d:=d) (v7:=v7) (h:=h) hs hi (st:=st) (r:=r)
   simp -implicitDefEqProofs (disch:=omega) [-storeD,-load_ptr,-H.els,e0,e3,e5,hbb,q85,q86,q88,Wp_some];generalize hLp2:loopω (LB cx prim 49 Tryz.f49 4) _=R;obtain ⟨x',⟨nn,env2,h3⟩,rfl,rfl,rfl,e0,e3,e4,e5,e7,rfl⟩:=lemL (env 4) (.t (.int .i64 i)) h2 _ _ hLp2 rfl (by simp [e0]) (by simp [e3]) (by simp) (by simp [e5]) (by simp) rfl
   simp only at e0 e3 e4 e5 e7;have hge:=runTo_ge wordB s (i+1);rw [runTo_step (by omega) (by rw [hbt]; simp [wordB,hlt])] at hge
   have hle:=runTo_le (p:=wordB) (s:=s) (i:=i) (by omega)
   clear hLp2 lemL;generalize runTo wordB s i=j at hge hle e5 ⊢;have g2:=sl_str (s:=s) (a:=i) (b:=(j:Int));have g3:((j:Int)).toNat=j:=by omega
   obtain ⟨d',h',qa,ra⟩:=hb.add (by omega) ⟨3,s.extract i j,0,i⟩
   simp only [Tk.t] at qa;simp -implicitDefEqProofs (disch:=omega) [-storeD,-load_ptr,-H.els,e0,e3,e4,e5,e7,g2,Wp_some,litSliceD,List.replicate,qa];exact ⟨by omega,l ++ [⟨3,s.extract i j,0,i⟩],j,by omega,by omega,by simp; omega,rfl,rfl,ra⟩
 rw [if_neg hlt];have hlt':letterB b.toNat=false:=by simpa using hlt
 rw [hlt'] at q88;by_cases h34:b.toNat=34
 · rw [if_pos h34]
   simp only [h34,show ((34:Nat):Int)=34 from rfl] at q85 q86 q88
   have q89:=fun h=>c89 (c:=49) (s:=s) (fr:=i) h hs (by omega) rfl
   have hK0:h2.next≠0:=by have:=hb.2.2.1; omega
   have hb1:∀ a w,RB ((h2.push (flt 0 0)).set h2.next (flt a w)) (env 4) l:=fun a w =>
     ⟨(hb.1.push _).setF (a:=0) (w:=0) (by simp),by simpa using hb.2.1,by simp,by simp [hK0.symm,hb.2.2.2]⟩
   have hK:∀ a w,((h2.push (flt 0 0)).set h2.next (flt a w)).objs h2.next=some (flt a w):=fun a w=>by simp
   have hK':(h2.push (flt 0 0)).objs h2.next=some (flt 0 0):=by simp
   have hpush:h2.push (.row 64 2 [.t (.agg [.int .i64 0,.int .i64 0])])=h2.push (flt 0 0):=rfl;have st1:=fl_st hK';have f1:=fun a w=>fl_f1 (hK a w)
   have ll1:=fun a w=>fl_l1 (hK a w)
   have ld:=fun a w=>fl_ld (hK a w)
   have fst2:=fun a w=>fl_st (hb1 a w).2.2.2
   simp only [rtx,fltT] at q89
   cases htx:txt s i (i+1) [] with
   | error f =>
     obtain ⟨a,w⟩:=f;rw [htx] at q89;simp only at q89 ⊢;have hw:eqI w 0=false:=eqI_false (txt_err htx);simp -implicitDefEqProofs (disch:=omega) [-storeD,-load_ptr,-fieldAddrD,-H.els,e0,e3,e5,hbb,h34,q85,q86,q88,q89,hpush,st1,f1,ll1,ld,fst2,hw,Wp_some]
   | ok oe =>
     obtain ⟨o,e⟩:=oe;rw [htx] at q89;simp only at q89 ⊢;by_cases h64:64<o.length
     · rw [if_pos h64] at q89 ⊢
       simp -implicitDefEqProofs (disch:=omega) [-storeD,-load_ptr,-fieldAddrD,-H.els,e0,e3,e5,hbb,h34,q85,q86,q88,q89,hpush,st1,f1,ll1,ld,fst2,Wp_some]
     · rw [if_neg h64] at q89 ⊢
       have hte:=txt_gt htx;obtain ⟨d',h',qa,ra⟩:=(hb1 0 0).add (by omega) ⟨2,⟨o.toArray⟩,0,i⟩
       simp only [Tk.t] at qa;simp -implicitDefEqProofs (disch:=omega) [-storeD,-load_ptr,-fieldAddrD,-H.els,e0,e3,e5,hbb,h34,q85,q86,q88,q89,hpush,st1,f1,ll1,ld,fst2,Wp_some,litSliceD,List.replicate,qa];exact ⟨by omega,l ++ [⟨2,⟨o.toArray⟩,0,i⟩],e+1,by omega,by omega,by simp; omega,by omega,rfl,ra⟩
 · rw [if_neg h34]
   have e34:eqI (b.toNat:Int) 34=false:=eqI_false (by omega)
   have q90:=fun h=>c90 (c:=49) (s:=s) (i:=i) h (by omega) (by omega) rfl
   have hsl:=signL_le (s:=s) (i:=i) (by omega)
   by_cases h0:signL s i=0
   · rw [if_pos h0]
     rw [h0] at q90;simp -implicitDefEqProofs (disch:=omega) [-storeD,-load_ptr,-H.els,e0,e3,e5,hbb,q85,q86,q88,q90,e34,fst,Wp_some]
   · rw [if_neg h0]
     have hs0:eqI (signL s i:Int) 0=false:=eqI_false (by omega)
     have g2:=sl_str (s:=s) (a:=i) (b:=(i:Int)+signL s i);have g3:((i:Int)+signL s i).toNat=i+signL s i:=by omega
     obtain ⟨d',h',qa,ra⟩:=hb.add (by omega) ⟨4,s.extract i (i+signL s i),0,i⟩
     simp only [Tk.t] at qa;simp -implicitDefEqProofs (disch:=omega) [-storeD,-load_ptr,-H.els,e0,e3,e5,hbb,q85,q86,q88,q90,e34,hs0,g2,g3,Wp_some,litSliceD,List.replicate,qa];exact ⟨by omega,l ++ [⟨4,s.extract i (i+signL s i),0,i⟩],i+signL s i,by omega,by omega,by simp; omega,by omega,rfl,ra⟩
end Go.Proofs.YtaldobgfbkllfaaGreatDoor

namespace Go.Proofs.YtaldobgfbkllfaaGreatDoor
open Vai
variable [Gl]
set_option maxHeartbeats 0
set_option maxRecDepth 100000
theorem bad_ge (s:ByteArray)(i:Nat):bad s i = -1∨0≤bad s i:=by
 fun_induction bad s i with
 | case1=>exact .inl rfl
 | case2=>exact .inr (by omega)
 | case3 _ _ _ ih=>exact ih
theorem row_snap {h:H}{id n:Nat}{bt:TypeId}{s:Nat}{ts:List T}(ho:h.objs id=some (.row bt s (ts.map .t)))(hn:ts.length=n):Vai.snap h (.row id 0 n n)=some (.slice ts):=by
 have he:h.els id n=some (bt,s,ts.map .t):=by simp [H.els,ho,hn]
 rw [snap_def,snapF_row,he];simp only [Nat.zero_add,List.length_map,hn,Nat.le_refl,if_true,List.drop_zero];rw [List.take_of_length_le (by simp [hn]),snapF_map]
 rfl
theorem TR.snap {h:H}{d:D}{l:List Tk}(ht:TR h d l):∃ x,Vai.snap h d=some x∧Slice x (l.map Tk.t):=by
 rcases ht with ⟨rfl,rfl⟩|⟨id,h1,rfl,h3⟩
 · exact ⟨.nilSlice,rfl,Slice.nil⟩
 · exact ⟨_,row_snap h3 (by simp),.inr rfl⟩
theorem TB.tr {n:Nat}{h:H}{d:D}{l:List Tk}(ht:TB n h l d):TR h d l:=by
 rcases ht with ht|⟨id,h1,h2,h3,h4⟩
 · exact .inl ht
 · exact .inr ⟨id,h2,h3,by rw [List.map_map]; exact h4⟩
theorem s49 (s:ByteArray)(hs:s.size≤1000000000):∃ d h',call cx prim 49 [.t (.str s)] .empty=some (.tup [d,.t (fltT (lexS s).2.1 (lexS s).2.2)],h')∧TR h' d (lexS s).1:=by
 rw [call_run rfl Tryz.func49 ok49 nd49 rfl (lbe rfl) rfl rfl];have hpush:H.empty.push (.row 64 2 [.t (.agg [.int .i64 0,.int .i64 0])])=H.empty.push (flt 0 0):=rfl;have h0:(H.empty.push (flt 0 0)).objs 0=some (flt 0 0):=by simp
 have fst:=fl_st h0;have ld:=fun (h2:H) a' w'=>fl_ld (h:=h2.set 0 (flt a' w')) (K:=0) (a:=a') (w:=w') (by simp)
 have ldp:=fun a' w'=>fl_ld (h:=H.empty.push (flt a' w')) (K:=0) (a:=a') (w:=w') (by simp)
 have hRB:RB (H.empty.push (flt 0 0)) (.t .nilSlice) []:=⟨.inl ⟨rfl,rfl⟩,rfl,by simp,h0⟩
 unfold lexS;by_cases h1:256<s.size
 · rw [if_pos h1]
   have c1:(256:Int)<s.size:=by omega
   simp -implicitDefEqProofs (disch:=omega) [-storeD,-load_ptr,-H.els,hpush,fst,ldp];exact ⟨_,_,⟨⟨rfl,rfl⟩,rfl⟩,.inl ⟨rfl,rfl⟩⟩
 rw [if_neg h1];have c1:¬ (256:Int)<s.size:=by omega
 have q84:=fun h=>c84 (c:=49) s h hs rfl
 by_cases h2:0≤bad s 0
 · rw [if_pos h2]
   have c2:eqI (bad s 0) (-1)=false:=eqI_false (by omega)
   simp -implicitDefEqProofs (disch:=omega) [-storeD,-load_ptr,-H.els,hpush,fst,ldp,q84,c2];exact ⟨_,_,⟨⟨rfl,rfl⟩,rfl⟩,.inl ⟨rfl,rfl⟩⟩
 rw [if_neg h2];have c2:bad s 0 = -1:=by rcases bad_ge s 0 with h|h<;>omega
 have lemL:=fun (st:St) (r:CR)=>l49 (s:=s) (by omega) (st:=st) (r:=r)
 simp -implicitDefEqProofs (disch:=omega) [-storeD,-load_ptr,-H.els,hpush,fst,ldp,q84,c2];generalize hLp:loopω (LB cx prim 49 Tryz.f49 0) _=R;obtain ⟨x,⟨nn,env,h2⟩,rfl,rfl,e3,hm⟩:=lemL _ _ hLp rfl (by simp) (by simp) (by simp) (by simpa using hRB)
 simp only at e3
 cases htk:toks s 0 [] with
 | error f =>
   obtain ⟨a,w⟩:=f;rw [htk] at hm;obtain ⟨rfl,e2,ho⟩:=hm;simp only at e2 ho;have ld2:=fl_ld ho;simp -implicitDefEqProofs (disch:=omega) [-storeD,-load_ptr,-H.els,e2,e3,ld2];exact ⟨_,_,⟨⟨rfl,rfl⟩,rfl⟩,.inl ⟨rfl,rfl⟩⟩
 | ok l =>
   rw [htk] at hm;obtain ⟨rfl,hr⟩:=hm;simp only at hr;have fst2:=fl_st hr.2.2.2;simp -implicitDefEqProofs (disch:=omega) [-storeD,-load_ptr,-H.els,e3,fst2,ld];exact ⟨_,_,⟨⟨rfl,rfl⟩,rfl⟩,hr.1.setF hr.2.2.2⟩
theorem c39 {c:FuncId}(s:ByteArray)(hs:s.size≤1000000000)(hm:md c 39 = .pure):∃ x,Slice x ((lexS s).1.map Tk.t)∧∀ h,callD (cx.at c) (call cx prim) 39 [.t (.str s)] h=some (.tup [.t x,.t (.int .i64 (lexS s).2.1),.t (.int .i64 (lexS s).2.2)],h):=by
 obtain ⟨d,h',q,_,ht⟩:=s39 (h:=.empty) rfl s hs;obtain ⟨x,hx,hsl⟩:=ht.tr.snap;exact ⟨x,hsl,fun h=>pureT cb39 hm q (by simp only [snapOut,allM,hx,snap_t]; rfl) rfl⟩
theorem c49 {c:FuncId}(s:ByteArray)(hs:s.size≤1000000000)(hm:md c 49 = .pure):∃ x,Slice x ((lexS s).1.map Tk.t)∧∀ h,callD (cx.at c) (call cx prim) 49 [.t (.str s)] h=some (.tup [.t x,.t (fltT (lexS s).2.1 (lexS s).2.2)],h):=by
 obtain ⟨d,h',q,ht⟩:=s49 s hs;obtain ⟨x,hx,hsl⟩:=ht.snap;exact ⟨x,hsl,fun h=>pureT cb49 hm q (by simp only [snapOut,allM,hx,snap_t]; rfl) rfl⟩
theorem toks_len {s:ByteArray}{i:Nat}{l:List Tk}:∀ {m},toks s i l = .ok m→l.length≤i→m.length≤i∨m.length≤s.size:=by
 fun_induction toks s i l with
 | case1 i l h=>intro m e hl; cases e; exact .inl hl
 | case2=>intro m e hl; cases e
 | case3 i l h1 t j ht h2 ih =>
  intro m e hl;have hgt:=tok1_gt (by omega) ht
  have hge:=runTo_ge blankB s i;have:=ih e (by simp; omega)
  omega
 | case4=>intro m e hl; cases e; exact .inl hl
theorem lexS_len (s:ByteArray):(lexS s).1.length≤256:=by
 unfold lexS;split
 · simp
 split
 · simp
 split
 · rename_i l h
   have:=toks_len h (by simp)
   simp only;omega
 · simp
end Go.Proofs.YtaldobgfbkllfaaGreatDoor

namespace Go.Proofs.YtaldobgfbkllfaaGreatDoor.P0
open Vai
variable [Gl]
set_option maxHeartbeats 0
set_option maxRecDepth 100000
def psO (s:ByteArray)(x:T)(d:Int)(o:D):AObj:=.row 85 4 [mkAgg [.t (.str s),.t x,.t (.int .i64 d),o]]
section
variable {s:ByteArray}{x:T}{d:Int}{o:D}{h:H}{P:Nat}(ho:h.objs P=some (psO s x d o))
include ho
theorem ps_0:loadD Tryz.prog h 9 (.ptr P 0 0 1)=some (.t (.str s)):=by simp [-mkAgg,loadD,H.els,ho,psO,wholeArr,partD,mkAgg_cells]
theorem ps_1 (hx:∃ l,Slice x l):loadD Tryz.prog h 80 (.ptr P 0 1 1)=some (.t x):=by
 obtain ⟨l,⟨rfl,_⟩|rfl⟩:=hx<;>simp [-mkAgg,loadD,H.els,ho,psO,wholeArr,partD,mkAgg_cells]
theorem ps_els:(h.els P 1)=some (85,4,[mkAgg [.t (.str s),.t x,.t (.int .i64 d),o]]):=by simp [H.els,ho,psO]
theorem ps_nil:nilCheckD h (.ptr P 0 0 1)=some (.ptr P 0 0 1):=by simp only [nilCheckD,ps_els ho]
theorem ps_f0:fieldAddrD Tryz.prog h 85 (.ptr P 0 0 1) 0=some (.ptr P 0 0 1):=by simp [-H.els,fieldAddrD,ps_els ho]
theorem ps_f1:fieldAddrD Tryz.prog h 85 (.ptr P 0 0 1) 1=some (.ptr P 0 1 1):=by simp [-H.els,fieldAddrD,ps_els ho]
theorem ps_f2:fieldAddrD Tryz.prog h 85 (.ptr P 0 0 1) 2=some (.ptr P 0 2 1):=by simp [-H.els,fieldAddrD,ps_els ho]
theorem ps_f3:fieldAddrD Tryz.prog h 85 (.ptr P 0 0 1) 3=some (.ptr P 0 3 1):=by simp [-H.els,fieldAddrD,ps_els ho]
end
section
variable {s:ByteArray}{x:T}{d:Int}{o:D}{h:H}{P:Nat}(ho:h.objs P=some (psO s x d o))(hx:x.cells=[x])
include ho hx
theorem ps_2:loadD Tryz.prog h 3 (.ptr P 0 2 1)=some (.t (.int .i64 d)):=by simp [-mkAgg,loadD,H.els,ho,psO,wholeArr,partD,mkAgg_cells,hx]
theorem ps_3:loadD Tryz.prog h 22 (.ptr P 0 3 1)=some o:=by simp [-mkAgg,loadD,H.els,ho,psO,wholeArr,partD,mkAgg_cells,hx]
theorem ps_s2 (e:Int):storeD Tryz.prog h 3 (.ptr P 0 2 1) (.t (.int .i64 e))=some (h.set P (psO s x e o)):=by
 have hm:h.mays P [D.t (.int .i64 e)]=true:=mays_trees h P [.int .i64 e];simp [-mkAgg,-H.els,-H.mays,storeD,ps_els ho,hm,okCells,wholeArr,mkAgg_cells,mkAgg_parts,splice,psO,hx]
theorem ps_s1 {y:T}(hy:y.cells=[y]):storeD Tryz.prog h 80 (.ptr P 0 1 1) (.t y)=some (h.set P (psO s y d o)):=by
 have hm:h.mays P [D.t y]=true:=mays_trees h P [y];simp [-mkAgg,-H.els,-H.mays,storeD,ps_els ho,hm,okCells,wholeArr,mkAgg_cells,mkAgg_parts,splice,psO,hx,hy]
theorem ps_s3 {o':D}(hd:o'.cells=[o'])(hm:h.may P o'=true):storeD Tryz.prog h 22 (.ptr P 0 3 1) o'=some (h.set P (psO s x d o')):=by
 have hm':h.mays P [o']=true:=by simp only [H.mays,List.all_cons,hm,List.all_nil,Bool.and_self]
 simp [-mkAgg,-H.els,-H.mays,-H.may,storeD,ps_els ho,hd,hm',okCells,wholeArr,mkAgg_cells,mkAgg_parts,splice,psO,hx]
end
theorem Slice.cells {x:T}{l:List T}(h:Slice x l):x.cells=[x]:=by
 rcases h with ⟨rfl,_⟩|rfl<;>rfl
section
variable {h:H}{t:Tk}
theorem tkl:(Tk.t t).cells.length=4:=rfl
theorem tf0:fieldAddrD Tryz.prog h 134 (.eptr (Tk.t t) 0) 0=some (.eptr (Tk.t t) 0):=by simp [Tk.t]
theorem tf1:fieldAddrD Tryz.prog h 134 (.eptr (Tk.t t) 0) 1=some (.eptr (Tk.t t) 1):=by simp [Tk.t]
theorem tf3:fieldAddrD Tryz.prog h 134 (.eptr (Tk.t t) 0) 3=some (.eptr (Tk.t t) 3):=by simp [Tk.t]
theorem tl0:loadD Tryz.prog h 3 (.eptr (Tk.t t) 0)=some (.t (.int .i64 t.kind)):=by simp [Tk.t]
theorem tl1:loadD Tryz.prog h 9 (.eptr (Tk.t t) 1)=some (.t (.str t.text)):=by simp [Tk.t]
theorem tl3:loadD Tryz.prog h 3 (.eptr (Tk.t t) 3)=some (.t (.int .i64 t.pos)):=by simp [Tk.t]
end
theorem slice_cons {x:T}{t:Tk}{ts:List Tk}(hx:Slice x ((t::ts).map Tk.t)):x = .slice ((t::ts).map Tk.t):=by
 rcases hx with ⟨_,e⟩|e
 · exact absurd e (by simp)
 · exact e
theorem s125 {s:ByteArray}{x:T}{d:Int}{o:D}{h:H}{P:Nat}{ts:List Tk}(ho:h.objs P=some (psO s x d o))(hx:Slice x (ts.map Tk.t)) :
  call cx prim0 125 [.ptr P 0 0 1] h=some (.t (.str (sg ts)),h):=by
 rw [call_run (cx:=cx) rfl Tryz.func125 ok125 nd125 rfl (lbe rfl) rfl rfl];have f1:=ps_1 ho ⟨_,hx⟩
 cases ts with
 | nil =>
  rcases hx with ⟨rfl,_⟩|rfl <;>
    simp -implicitDefEqProofs (disch:=omega) [-fieldAddrD,-nilCheckD,ps_nil ho,ps_f1 ho,f1,sg,noText]
 | cons t ts =>
  obtain rfl:=slice_cons hx;by_cases h3:3≤t.kind
  · simp -implicitDefEqProofs (disch:=omega) [-fieldAddrD,-nilCheckD,-load_eptr,ps_nil ho,ps_f1 ho,f1,sg,h3,tkl,tf0,tf1,tl0,tl1]
  · simp -implicitDefEqProofs (disch:=omega) [-fieldAddrD,-nilCheckD,-load_eptr,ps_nil ho,ps_f1 ho,f1,sg,h3,tkl,tf0,tf1,tl0,tl1,noText]
theorem s76 {s:ByteArray}{x:T}{d:Int}{o:D}{h:H}{P:Nat}{ts:List Tk}(ho:h.objs P=some (psO s x d o))(hx:Slice x (ts.map Tk.t)) :
  call cx prim0 76 [.ptr P 0 0 1] h=some (.t (.int .i64 (plc s.size ts)),h):=by
 rw [call_run (cx:=cx) rfl Tryz.func76 ok76 nd76 rfl (lbe rfl) rfl rfl];have f1:=ps_1 ho ⟨_,hx⟩;have f0:=ps_0 ho
 cases ts with
 | nil =>
  rcases hx with ⟨rfl,_⟩|rfl <;>
   simp -implicitDefEqProofs (disch:=omega) [-fieldAddrD,-nilCheckD,-load_ptr,ps_nil ho,ps_f1 ho,f1,ps_f0 ho,f0,plc]
 | cons t ts =>
  obtain rfl:=slice_cons hx;have e1:¬ ((ts.length:Int)+1=0):=by omega
  simp -implicitDefEqProofs (disch:=omega) [-fieldAddrD,-nilCheckD,-load_ptr,-load_eptr,ps_nil ho,ps_f1 ho,f1,plc,tkl,tf3,tl3,e1]
theorem c125 {c:FuncId}{s:ByteArray}{x:T}{d:Int}{o:D}{h:H}{P:Nat}{ts:List Tk}(ho:h.objs P=some (psO s x d o))(hx:Slice x (ts.map Tk.t))(hm:md c 125 = .keep) :
 callD (cx.at c) (call cx prim0) 125 [.ptr P 0 0 1] h=some (.t (.str (sg ts)),h):=keepT cb125 hm (s125 ho hx)
theorem c76 {c:FuncId}{s:ByteArray}{x:T}{d:Int}{o:D}{h:H}{P:Nat}{ts:List Tk}(ho:h.objs P=some (psO s x d o))(hx:Slice x (ts.map Tk.t))(hm:md c 76 = .keep) :
 callD (cx.at c) (call cx prim0) 76 [.ptr P 0 0 1] h=some (.t (.int .i64 (plc s.size ts)),h):=keepT cb76 hm (s76 ho hx)
theorem mkI (t:TypeId)(x:T):mkIface t (.t x) = .t (.iface t x):=rfl
theorem sl_tk (h:H)(t:Tk)(ts:List Tk):sliceD Tryz.prog h 80 (.t (.slice ((t::ts).map Tk.t))) (some (.t (.int .i64 1))) none none=some (.t (.slice (ts.map Tk.t))):=by
 have hall:allSz 4 ((t::ts).map Tk.t)=true:=by simp [allSz,tkl]
 have e1:(1:Int)≤((t::ts).map Tk.t).length:=by simp; omega
 have hd:boundD (some (.t (.int .i64 1)))=some (some (1:Int)):=rfl;have hn:boundD none=some none:=rfl;simp only [sliceD,hd,hn,tk80,sz134,Option.getD_some,Option.getD_none,hall];rw [if_pos ⟨by omega,e1,Int.le_refl _,.inr trivial⟩]
 simp [List.take_of_length_le]
def fau (p w:Int):T:=.iface 87 (.agg [.int .i64 p,.int .i64 w])
theorem s126_no {s:ByteArray}{x:T}{d:Int}{o:D}{h:H}{P:Nat}{ts:List Tk}(ho:h.objs P=some (psO s x d o))(hx:Slice x (ts.map Tk.t)){y:ByteArray}(hy:sg ts≠y) :
  call cx prim0 126 [.ptr P 0 0 1,.t (.str y)] h=some (.pan (fau (plc s.size ts) 131),h):=by
 rw [call_run (cx:=cx) rfl Tryz.func126 ok126 nd126 rfl (lbe rfl) rfl rfl];have f1:=c76 (c:=126) ho hx rfl;have f2:=c125 (c:=126) ho hx rfl;simp -implicitDefEqProofs (disch:=omega) [f1,f2,eqS,hy,fau,mkI]
theorem s126 {s:ByteArray}{x:T}{d:Int}{o:D}{h:H}{P:Nat}{t:Tk}{ts:List Tk}(ho:h.objs P=some (psO s x d o))(hx:Slice x ((t::ts).map Tk.t)){y:ByteArray}(hy:sg (t::ts)=y) :
  call cx prim0 126 [.ptr P 0 0 1,.t (.str y)] h=some (.t (.int .i64 t.pos),h.set P (psO s (.slice (ts.map Tk.t)) d o)):=by
 rw [call_run (cx:=cx) rfl Tryz.func126 ok126 nd126 rfl (lbe rfl) rfl rfl];have f1:=c76 (c:=126) ho hx rfl;have f2:=c125 (c:=126) ho hx rfl;have f3:=ps_1 ho ⟨_,hx⟩;have f4:=ps_s1 ho (Slice.cells hx) (y:=.slice (ts.map Tk.t)) rfl;obtain rfl:=slice_cons hx;simp only [plc] at f1;simp -implicitDefEqProofs (disch:=omega) [-fieldAddrD,-nilCheckD,-load_ptr,-load_eptr,-storeD,ps_nil ho,ps_f1 ho,f1,f2,f3,f4,hy,eqS,←List.map_cons,sl_tk,-List.map_cons]
theorem s127 {s:ByteArray}{x:T}{d:Nat}{o:D}{h:H}{P:Nat}(ho:h.objs P=some (psO s x d o))(hx:x.cells=[x])(hd:d<16)(p:Int) :
  call cx prim0 127 [.ptr P 0 0 1,.t (.int .i64 p)] h=some (.tup [],h.set P (psO s x (d+1:Nat) o)):=by
 rw [call_run (cx:=cx) rfl Tryz.func127 ok127 nd127 rfl (lbe rfl) rfl rfl];have f2:=ps_2 ho hx;have f3:=ps_s2 ho hx ((d:Int)+1);have ho2:(h.set P (psO s x ((d:Int)+1) o)).objs P=some (psO s x ((d:Int)+1) o):=by simp
 have f4:=ps_2 ho2 hx;have e1:¬ (16<(d:Int)+1):=by omega
 simp -implicitDefEqProofs (disch:=omega) [-fieldAddrD,-nilCheckD,-load_ptr,-load_eptr,-storeD,ps_nil ho,ps_f2 ho,f2,f3,f4,ps_nil ho2,ps_f2 ho2,e1]
theorem s127_no {s:ByteArray}{x:T}{d:Nat}{o:D}{h:H}{P:Nat}(ho:h.objs P=some (psO s x d o))(hx:x.cells=[x])(hd:16≤d)(hd2:d≤1000)(p:Int) :
  call cx prim0 127 [.ptr P 0 0 1,.t (.int .i64 p)] h=some (.pan (fau p 134),h.set P (psO s x (d+1:Nat) o)):=by
 rw [call_run (cx:=cx) rfl Tryz.func127 ok127 nd127 rfl (lbe rfl) rfl rfl];have f2:=ps_2 ho hx;have f3:=ps_s2 ho hx ((d:Int)+1);have ho2:(h.set P (psO s x ((d:Int)+1) o)).objs P=some (psO s x ((d:Int)+1) o):=by simp
 have f4:=ps_2 ho2 hx;have e1:(16<(d:Int)+1):=by omega
 simp -implicitDefEqProofs (disch:=omega) [-fieldAddrD,-nilCheckD,-load_ptr,-load_eptr,-storeD,ps_nil ho,ps_f2 ho,f2,f3,f4,ps_nil ho2,ps_f2 ho2,e1,fau,mkI]
def PX (n:Nat)(h:H)(P:Nat)(s:ByteArray)(ts:List Tk)(d:Nat)(out:List PT):Prop:=n≤P∧P<h.next∧h.marks=[]∧∃ x o,Slice x (ts.map Tk.t)∧h.objs P=some (psO s x d o) ∧
 ((o = .t .nilSlice∧out=[])∨∃ id,n≤id∧id<h.next∧o = .row id 0 out.length out.length∧h.objs id=some (.row 57 9 ((out.map prP).map .t)))
def Own (h:H)(P j:Nat):Prop:=j=P∨∃ l k,loadD Tryz.prog h 22 (.ptr P 0 3 1)=some (.row j 0 l k)
def Fr (n P:Nat)(h h':H):Prop:=h.next≤h'.next∧h'.marks=h.marks∧(∀ id,id<n→h'.objs id=h.objs id)∧(∀ j,j<h.next→¬ Own h P j→h'.objs j=h.objs j)∧(∀ j,j<h.next→Own h' P j→Own h P j)
theorem Fr.refl (n:Nat){P:Nat}(h:H):Fr n P h h:=⟨Nat.le_refl _,rfl,fun _ _=>rfl,fun _ _ _=>rfl,fun _ _ h=>h⟩
theorem Fr.trans {n P:Nat}{h h1 h2:H}(a:Fr n P h h1)(b:Fr n P h1 h2):Fr n P h h2 :=
 ⟨Nat.le_trans a.1 b.1,b.2.1.trans a.2.1,fun id hid=>(b.2.2.1 id hid).trans (a.2.2.1 id hid),
  fun j hj ho=>(b.2.2.2.1 j (Nat.lt_of_lt_of_le hj a.1) (fun o=>ho (a.2.2.2.2 j hj o))).trans (a.2.2.2.1 j hj ho),
  fun j hj ho=>a.2.2.2.2 j hj (b.2.2.2.2 j (Nat.lt_of_lt_of_le hj a.1) ho)⟩
theorem Fr.of {n P:Nat}{h h':H}{s s':ByteArray}{x x':T}{d d':Int}{o o':D}(ho:h.objs P=some (psO s x d o))(hx:x.cells=[x])(ho':h'.objs P=some (psO s' x' d' o'))(hx':x'.cells=[x'])
   (h1:n≤P) (hn:h.next≤h'.next) (hm:h'.marks=h.marks) (hle:n≤h.next) (hob:∀ j,j<h.next→j≠P→(∀ l k,o ≠ .row j 0 l k)→h'.objs j=h.objs j) (hlow:∀ j l k,o = .row j 0 l k→n≤j)
   (hoo:∀ j l k,j<h.next→o' = .row j 0 l k→∃ l k,o = .row j 0 l k):Fr n P h h':=by
 have e:=ps_3 ho hx;have e':=ps_3 ho' hx';refine ⟨hn,hm,fun id hid=>hob id (by omega) (by omega) (fun l k c=>by have:=hlow _ _ _ c; omega),fun j hj hno=>?_,fun j hj hj'=>?_⟩
 · refine hob j hj (fun c=>hno (.inl c)) (fun l k c=>hno (.inr ⟨l,k,by rw [e,c]⟩))
 · rcases hj' with c|⟨l,k,c⟩
   · exact .inl c
   · rw [e'] at c
     obtain ⟨l,k,c⟩:=hoo j l k hj (Option.some.inj c);exact .inr ⟨l,k,by rw [e,c]⟩
theorem s128 {n:Nat}{h:H}{P:Nat}{s:ByteArray}{ts:List Tk}{d:Nat}{out:List PT}(hp:PX n h P s ts d out)(hlen:out.length≤1000000)(p:PT) :
   ∃ h',call cx prim0 128 [.ptr P 0 0 1,.t (prP p)] h=some (.t (.int .i64 out.length),h')∧PX n h' P s ts d (out ++ [p])∧Fr n P h h':=by
 obtain ⟨h1,h2,h3,x,o,hx,hd,h5⟩:=hp;rw [call_run (cx:=cx) rfl Tryz.func128 ok128 nd128 rfl (lbe rfl) rfl rfl];have hb:∀ w,(h.push w).objs P=some (psO s x d o):=fun w=>by simp only [push_objs,upd_ne _ _ (show P≠h.next by omega)]; exact hd
 have hb':∀ w w',((h.push w).push w').objs P=some (psO s x d o):=fun w w'=>by simp only [push_objs,push_next,upd_ne _ _ (show P≠h.next by omega),upd_ne _ _ (show P≠h.next+1 by omega)]; exact hd
 have hc:=Slice.cells hx;have f1:=fun w=>ps_3 (hb w) hc
 have f2:=fun w=>ps_nil (hb w)
 have f3:=fun w=>ps_f3 (hb w)
 have g1':=fun w w'=>ps_3 (hb' w w') hc
 have g2':=fun w w'=>ps_nil (hb' w w')
 have g3':=fun w w'=>ps_f3 (hb' w w')
 rcases h5 with ⟨rfl,rfl⟩|⟨id,g1,g2,rfl,g3⟩
 · have hb2:∀ w w' w'',(((h.push w).push w').push w'').objs P=some (psO s x d (.t .nilSlice)):=fun w w' w''=>by
    simp only [push_objs,push_next,upd_ne _ _ (show P≠h.next by omega),upd_ne _ _ (show P≠h.next+1 by omega),upd_ne _ _ (show P≠h.next+1+1 by omega)]; exact hd
   have k2:=fun w w' w''=>ps_nil (hb2 w w' w'')
   have kf:=fun w w' w''=>ps_3 (hb2 w w' w'') hc
   have k3:=fun w w' w''=>ps_f3 (hb2 w w' w'')
   have k4:=fun w w'=>ps_s3 (o':=.row (h.next+1) 0 1 1) (hb' w w') hc rfl (by simp [h3])
   have hb4:∀ w w',(((h.push w).push w').set P (psO s x d (.row (h.next+1) 0 1 1))).objs P=some (psO s x d (.row (h.next+1) 0 1 1)):=fun w w'=>by simp
   have j1:=fun w w'=>ps_3 (hb4 w w') hc
   have j2:=fun w w'=>ps_nil (hb4 w w')
   have j3:=fun w w'=>ps_f3 (hb4 w w')
   simp -implicitDefEqProofs (disch:=omega) [-storeD,-nilCheckD,-fieldAddrD,f1,f2,f3,g1',g2',g3',litSliceD,List.replicate,appendD,sourceD,kf,k2,k3,k4,j1,j2,j3,md,show ¬ (h.next+1=P) by omega]
   refine ⟨⟨h1,by simp; omega,h3,x,_,hx,by simp; rfl,.inr ⟨h.next+1,by omega,by simp,by simp,?_⟩⟩,Fr.of hd hc (by simp; rfl) hc h1 (by simp; omega) (by simp) (by omega) (fun j a1 a2 a3=>by simp [a2,show ¬ (j=h.next) by omega,show ¬ (j=h.next+1) by omega]) (fun j l k c=>by cases c) (fun j l k hj c=>by cases c; omega)⟩
   simp [show ¬ (h.next+1=P) by omega]
 · have hne:id≠P:=fun e=>by
    subst e;rw [hd] at g3;simp [psO] at g3
   have hb3:∀ w,(h.push w).objs id=some (.row 57 9 ((out.map prP).map .t)):=fun w=>by simp only [push_objs,upd_ne _ _ (show id≠h.next by omega)]; exact g3
   have hb3':∀ w w',((h.push w).push w').objs id=some (.row 57 9 ((out.map prP).map .t)):=fun w w'=>by simp only [push_objs,push_next,upd_ne _ _ (show id≠h.next by omega),upd_ne _ _ (show id≠h.next+1 by omega)]; exact g3
   have hb2:∀ w w',((h.push w).set id w').objs P=some (psO s x d (.row id 0 out.length out.length)):=fun w w'=>by simp only [push_objs,set_objs,upd_ne _ _ (show P≠h.next by omega),upd_ne _ _ (show P≠id from fun e=>hne e.symm)]; exact hd
   have k2:=fun w w'=>ps_nil (hb2 w w')
   have kf:=fun w w'=>ps_3 (hb2 w w') hc
   have k3:=fun w w'=>ps_f3 (hb2 w w')
   have k4:=fun w w'=>ps_s3 (o':=.row id 0 (out.length+1) (out.length+1)) (hb2 w w') hc rfl (by simp [h3])
   have hb4:∀ w w',(((h.push w).set id w').set P (psO s x d (.row id 0 (out.length+1) (out.length+1)))).objs P=some (psO s x d (.row id 0 (out.length+1) (out.length+1))):=fun w w'=>by simp
   have j1:=fun w w'=>ps_3 (hb4 w w') hc
   have j2:=fun w w'=>ps_nil (hb4 w w')
   have j3:=fun w w'=>ps_f3 (hb4 w w')
   have e1:(out.length:Nat)+1<140737488355328:=by omega
   have e2:(out.length+1)*88≤140737488355328:=by omega
   simp -implicitDefEqProofs (disch:=omega) [-storeD,-nilCheckD,-fieldAddrD,f1,f2,f3,g1',g2',g3',litSliceD,List.replicate,appendD,sourceD,kf,k2,k3,k4,j1,j2,j3,md,hb3,hb3',h3,e1,e2,show ¬ (id=h.next) by omega,g3,hne]
   refine ⟨⟨h1,by simp; omega,h3,x,_,hx,by simp; rfl,.inr ⟨id,g1,by simp; omega,by simp,?_⟩⟩,Fr.of hd hc (by simp; rfl) hc h1 (by simp) (by simp) (by omega) (fun j a1 a2 a3=>by simp [a2,show ¬ (j=h.next) by omega,show ¬ (j=id) from fun e=>a3 _ _ (by rw [e])]) (fun j l k c=>(D.row.inj c).1 ▸ g1) (fun j l k hj c=>⟨_,_,by rw [(D.row.inj c).1]⟩)⟩
   simp [hne]
theorem PX.get {n:Nat}{h:H}{P:Nat}{s:ByteArray}{ts:List Tk}{d:Nat}{out:List PT}(hp:PX n h P s ts d out) :
   ∃ x o,Slice x (ts.map Tk.t)∧h.objs P=some (psO s x d o)∧∀ (y:T) (ts2:List Tk) (e:Nat),Slice y (ts2.map Tk.t)→PX n (h.set P (psO s y e o)) P s ts2 e out∧Fr n P h (h.set P (psO s y e o)):=by
 obtain ⟨h1,h2,h3,x,o,hx,hd,h5⟩:=hp;refine ⟨x,o,hx,hd,fun y ts2 e hy=>⟨⟨h1,h2,h3,y,o,hy,by simp,?_⟩,Fr.of hd (Slice.cells hx) (by simp; rfl) (Slice.cells hy) h1 (by simp) rfl (by omega) (fun j a1 a2 a3=>by simp [a2]) (fun j l k c=>?_) (fun j l k hj c=>⟨l,k,c⟩)⟩⟩
 rotate_left
 · rcases h5 with ⟨e,_⟩|⟨id,g1,g2,e,g3⟩
   · rw [e] at c; cases c
   · rw [e] at c; cases c; exact g1
 rcases h5 with h5|⟨id,g1,g2,rfl,g3⟩
 · exact .inl h5
 · have hne:id≠P:=fun e=>by
     subst e;rw [hd] at g3;simp [psO] at g3
   exact .inr ⟨id,g1,g2,rfl,by simp only [set_objs,upd_ne _ _ hne]; exact g3⟩
section
variable {n:Nat}{h:H}{P:Nat}{s:ByteArray}{ts:List Tk}{d:Nat}{out:List PT}{c:FuncId}
theorem x125 (hp:PX n h P s ts d out)(hm:md c 125 = .keep):callD (cx.at c) (call cx prim0) 125 [.ptr P 0 0 1] h=some (.t (.str (sg ts)),h):=by
 obtain ⟨x,o,hx,ho,_⟩:=hp.get;exact c125 ho hx hm
theorem x76 (hp:PX n h P s ts d out)(hm:md c 76 = .keep):callD (cx.at c) (call cx prim0) 76 [.ptr P 0 0 1] h=some (.t (.int .i64 (plc s.size ts)),h):=by
 obtain ⟨x,o,hx,ho,_⟩:=hp.get;exact c76 ho hx hm
theorem x126 {t:Tk}(hp:PX n h P s (t::ts) d out){y:ByteArray}(hy:sg (t::ts)=y)(hm:md c 126 = .keep) :
  ∃ h',callD (cx.at c) (call cx prim0) 126 [.ptr P 0 0 1,.t (.str y)] h=some (.t (.int .i64 t.pos),h')∧PX n h' P s ts d out∧Fr n P h h':=by
 obtain ⟨x,o,hx,ho,k⟩:=hp.get;exact ⟨_,keepT cb126 hm (s126 ho hx hy),k _ ts d (.inr rfl)⟩
theorem x126_no (hp:PX n h P s ts d out){y:ByteArray}(hy:sg ts≠y)(hm:md c 126 = .keep) :
  callD (cx.at c) (call cx prim0) 126 [.ptr P 0 0 1,.t (.str y)] h=none∧callX (cx.at c) (call cx prim0) 126 [.ptr P 0 0 1,.t (.str y)] h=some (fau (plc s.size ts) 131,h):=by
 obtain ⟨x,o,hx,ho,k⟩:=hp.get;exact panT cb126 hm (s126_no ho hx hy)
theorem x127 (hp:PX n h P s ts d out)(hd:d<16)(p:Int)(hm:md c 127 = .keep) :
  ∃ h',callD (cx.at c) (call cx prim0) 127 [.ptr P 0 0 1,.t (.int .i64 p)] h=some (.tup [],h')∧PX n h' P s ts (d+1) out∧Fr n P h h':=by
 obtain ⟨x,o,hx,ho,k⟩:=hp.get;exact ⟨_,keepT cb127 hm (s127 ho (Slice.cells hx) hd p),k _ ts (d+1) hx⟩
theorem x127_no (hp:PX n h P s ts d out)(hd:16≤d)(hd2:d≤1000)(p:Int)(hm:md c 127 = .keep) :
  ∃ h',callD (cx.at c) (call cx prim0) 127 [.ptr P 0 0 1,.t (.int .i64 p)] h=none∧callX (cx.at c) (call cx prim0) 127 [.ptr P 0 0 1,.t (.int .i64 p)] h=some (fau p 134,h')∧Fr n P h h':=by
 obtain ⟨x,o,hx,ho,k⟩:=hp.get;have q:=panT (cc:=cx.at c) cb127 hm (s127_no ho (Slice.cells hx) hd hd2 p);exact ⟨_,q.1,q.2,(k _ ts (d+1) hx).2⟩
theorem x128 (hp:PX n h P s ts d out)(hlen:out.length≤1000000)(p:PT)(hm:md c 128 = .keep) :
  ∃ h',callD (cx.at c) (call cx prim0) 128 [.ptr P 0 0 1,.t (prP p)] h=some (.t (.int .i64 out.length),h')∧PX n h' P s ts d (out ++ [p])∧Fr n P h h':=by
 obtain ⟨h',q,r⟩:=s128 hp hlen p;exact ⟨h',keepT cb128 hm q,r⟩
def Res (k:FuncId)(n:Nat)(h:H)(P:Nat)(s:ByteArray)(d:Nat):PR→Prop
 | .ok v ts2 out2=>∃ h',call cx prim0 k [.ptr P 0 0 1] h=some (.t (.int .i64 v),h')∧PX n h' P s ts2 d out2∧Fr n P h h'
 | .er p w=>∃ h',call cx prim0 k [.ptr P 0 0 1] h=some (.pan (fau p w),h')∧Fr n P h h'
theorem s235_no (hp:PX n h P s ts d out)(hy:sg ts≠bOpen):Res 235 n h P s d (.er (plc s.size ts) 131):=by
 have f:=x126_no (c:=235) hp hy rfl;refine ⟨h,?_,Fr.refl _ _⟩;rw [call_run (cx:=cx) rfl Tryz.func235 ok235 nd235 rfl (lbe rfl) rfl rfl];simp only [bOpen] at f;simp -implicitDefEqProofs (disch:=omega) [f.1,f.2]
theorem s235_deep {t:Tk}(hp:PX n h P s (t::ts) d out)(hy:sg (t::ts)=bOpen)(hd:16≤d)(hd2:d≤1000):Res 235 n h P s d (.er t.pos 134):=by
 obtain ⟨h1,f1,g1,r1⟩:=x126 (c:=235) hp hy rfl;obtain ⟨h2,f2,g2,r2⟩:=x127_no (c:=235) g1 hd hd2 t.pos rfl;refine ⟨h2,?_,r1.trans r2⟩;rw [call_run (cx:=cx) rfl Tryz.func235 ok235 nd235 rfl (lbe rfl) rfl rfl];simp only [bOpen] at f1;simp -implicitDefEqProofs (disch:=omega) [f1,f2,g2]
theorem s235 {t:Tk}(hp:PX n h P s (t::ts) d out)(hy:sg (t::ts)=bOpen)(hd:d<16){r:PR}(ih:∀ h,PX n h P s ts (d+1) out→Res 75 n h P s (d+1) r) :
  Res 235 n h P s d (match r with
    | .er p w=>.er p w
    | .ok v [] out2=>.er (plc s.size []) 131
    | .ok v (t2::ts2) out2=>if sg (t2::ts2)=bClose then .ok v ts2 out2 else .er t2.pos 131):=by
 obtain ⟨h1,f1,g1,r1⟩:=x126 (c:=235) hp hy rfl;obtain ⟨h2,f2,g2,r2⟩:=x127 (c:=235) g1 hd t.pos rfl;simp only [bOpen] at f1
 cases r with
 | er p w =>
  obtain ⟨h3,q3,r3⟩:=ih h2 g2;have q:=panT (cc:=cx.at 235) cb75 rfl q3;refine ⟨h3,?_,(r1.trans r2).trans r3⟩;rw [call_run (cx:=cx) rfl Tryz.func235 ok235 nd235 rfl (lbe rfl) rfl rfl];simp -implicitDefEqProofs (disch:=omega) [f1,f2,q.1,q.2]
 | ok v ts2 out2 =>
  obtain ⟨h3,q3,g3,r3⟩:=ih h2 g2;have q:=keepT (cc:=cx.at 235) cb75 rfl q3;by_cases hc:sg ts2=bClose
  · obtain ⟨t2,ts2,rfl⟩:=sg_ne hc (by decide)
    obtain ⟨h4,f4,g4,r4⟩:=x126 (c:=235) g3 hc rfl;obtain ⟨x,o,hx,ho,k⟩:=g4.get;have f5:=ps_2 ho (Slice.cells hx);have f6:=ps_s2 ho (Slice.cells hx) d;obtain ⟨g5,r5⟩:=k x ts2 d hx;simp only [if_pos hc];refine ⟨_,?_,g5,(((r1.trans r2).trans r3).trans r4).trans r5⟩;rw [call_run (cx:=cx) rfl Tryz.func235 ok235 nd235 rfl (lbe rfl) rfl rfl];simp only [bClose] at f4;have e1:(d:Int)+1-1=d:=by omega
    simp -implicitDefEqProofs (disch:=omega) [-storeD,-nilCheckD,-fieldAddrD,-load_ptr,f1,f2,q,f4,ps_nil ho,ps_f2 ho,f5,f6,e1]
  · have f4:=x126_no (c:=235) g3 hc rfl
    have:Res 235 n h P s d (.er (plc s.size ts2) 131):=by
     refine ⟨h3,?_,(r1.trans r2).trans r3⟩;rw [call_run (cx:=cx) rfl Tryz.func235 ok235 nd235 rfl (lbe rfl) rfl rfl];simp only [bClose] at f4;simp -implicitDefEqProofs (disch:=omega) [f1,f2,q,f4.1,f4.2]
    cases ts2 with
    | nil=>exact this
    | cons t2 ts2=>simp only [if_neg hc]; exact this
end
def idxI (l:List ByteArray)(x:ByteArray):Int:=match l.findIdx? (fun y=>decide (y=x)) with
 | some i=>i
 | none=>-1
theorem idx_some {l:List ByteArray}{x:ByteArray}{k:Nat}(h1:∀ j,j<k→∀ y,l[j]?=some y→y≠x)(h2:l[k]?=some x):idxI l x=k:=by
 have:l.findIdx? (fun y=>decide (y=x))=some k:=by
  rw [List.findIdx?_eq_some_iff_getElem];obtain ⟨hk,e⟩:=List.getElem?_eq_some_iff.1 h2;refine ⟨hk,by simp [e],fun j hj=>?_⟩
  have:=h1 j hj _ (List.getElem?_eq_getElem (by omega))
  simpa using this
 simp only [idxI,this]
theorem idx_none {l:List ByteArray}{x:ByteArray}(h1:∀ j,j<l.length→∀ y,l[j]?=some y→y≠x):idxI l x = -1:=by
 have:l.findIdx? (fun y=>decide (y=x))=none:=by
  rw [List.findIdx?_eq_none_iff];intro y hy;obtain ⟨j,hj,e⟩:=List.mem_iff_getElem.1 hy;have:=h1 j hj y (by rw [←e]; exact List.getElem?_eq_getElem hj)
  simpa using this
 simp only [idxI,this]
theorem s187 (l:List ByteArray)(x:ByteArray)(hl:l.length≤1000):∃ h',call cx prim0 187 [.t (.slice (l.map .str)),.t (.str x)] .empty=some (.t (.int .i64 (idxI l x)),h'):=by
 rw [call_run (cx:=cx) rfl Tryz.func187 ok187 nd187 rfl (lbe rfl) rfl rfl];simp -implicitDefEqProofs (disch:=omega) [];generalize hLp:loopω (LB cx prim0 187 Tryz.f187 0) _=R;obtain ⟨x',⟨nn,env,h2⟩,rfl,⟨rfl,hr⟩⟩:=loop_uses hLp l.length
   (fun k st=>st.n=19∧st.env 0 = .t (.slice (l.map .str))∧st.env 1 = .t (.str x)∧st.env 7 = .t (.int .i64 l.length)∧st.env 8 = .t (.int .i64 k)∧∀ j,j<k→∀ y,l[j]?=some y→y≠x)
   (fun x' st=>st.n=19∧((x' = .exit 0∧idxI l x = -1)∨(x' = .ret∧st.env 4 = .t (.int .i64 (idxI l x)))))
   (by refine ⟨rfl,by simp,by simp,by simp,by simp,fun j hj=>by omega⟩) (by
   rintro k ⟨nn,env,h2⟩ hk ⟨rfl,e0,e1,e7,e8,hall⟩;simp only at e0 e1 e7 e8;rw [LB_run nd187 rfl];by_cases hk':k<l.length
   · obtain ⟨y,hy⟩:∃ y,l[k]?=some y:=⟨l[k],by simp [hk']⟩
     by_cases hxy:x=y
     · subst hxy
       have hi:=idx_some hall hy;have hy2:(l.map T.str)[k]?=some (.str x):=by simp [hy]
       generalize hL:l.map T.str=L at *;have hL2:L.length=l.length:=by rw [←hL]; simp
       simp -implicitDefEqProofs (disch:=omega) [-getElem?_pos,e0,e1,e7,e8,hk',hy2,eqS,hi,hL2,Wp_some]
     · have hy2:(l.map T.str)[k]?=some (.str y):=by simp [hy]
       have hall2:∀ j,j<k+1→∀ y,l[j]?=some y→y≠x:=fun j hj z hz=>by
        by_cases e:j=k
        · subst e; rw [hy] at hz; cases hz; exact fun e=>hxy e.symm
        · exact hall j (by omega) z hz
       generalize hL:l.map T.str=L at *;have hL2:L.length=l.length:=by rw [←hL]; simp
       simp -implicitDefEqProofs (disch:=omega) [-getElem?_pos,e0,e1,e7,e8,hk',hy2,eqS,hxy,hL2,Wp_some];exact hall2
   · have hi:=idx_none (l:=l) (x:=x) (fun j hj=>hall j (by omega))
     simp -implicitDefEqProofs (disch:=omega) [e0,e1,e7,e8,hk',hi,Wp_some])
 simp only at hr;rcases hr with ⟨rfl,hi⟩|⟨rfl,hi⟩
 · simp -implicitDefEqProofs (disch:=omega) [hi]
 · simp -implicitDefEqProofs (disch:=omega) [hi]
theorem c187 {c:FuncId}(l:List ByteArray)(x:ByteArray)(hl:l.length≤1000)(h:H)(hm:md c 187 = .pure):callD (cx.at c) (call cx prim0) 187 [.t (.slice (l.map .str)),.t (.str x)] h=some (.t (.int .i64 (idxI l x)),h):=by
 obtain ⟨h',q⟩:=s187 l x hl;exact pureT cb187 hm q rfl rfl
theorem c171 {c:FuncId}(l:List ByteArray)(x:ByteArray)(hl:l.length≤1000)(h:H)(hm:md c 171 = .pure):callD (cx.at c) (call cx prim0) 171 [.t (.slice (l.map .str)),.t (.str x)] h=some (.t (.bool (decide (0≤idxI l x))),h):=by
 have q:∃ h',call cx prim0 171 [.t (.slice (l.map .str)),.t (.str x)] .empty=some (.t (.bool (decide (0≤idxI l x))),h'):=by
  rw [call_run (cx:=cx) rfl Tryz.func171 ok171 nd171 rfl (lbe rfl) rfl rfl];have f:=fun h=>c187 (c:=171) l x hl h rfl
  simp -implicitDefEqProofs (disch:=omega) [f,leI]
 obtain ⟨h',q⟩:=q;exact pureT cb171 hm q rfl rfl
theorem idx_le {l:List ByteArray}{x:ByteArray} : -1≤idxI l x∧idxI l x≤l.length:=by
 unfold idxI
 cases h:l.findIdx? (fun y=>decide (y=x)) with
 | none=>simp only; omega
 | some i =>
  rw [List.findIdx?_eq_some_iff_getElem] at h;obtain ⟨hk,_⟩:=h;simp only; omega
theorem c172 {c:FuncId}(x:ByteArray)(h:H)(hm:md c 172 = .pure):callD (cx.at c) (call cx prim0) 172 [.t (.str x)] h=some (.t (.int .i64 (6+idxI sgn x)),h):=by
 have q:∃ h',call cx prim0 172 [.t (.str x)] .empty=some (.t (.int .i64 (6+idxI sgn x)),h'):=by
  rw [call_run (cx:=cx) rfl Tryz.func172 ok172 nd172 rfl (lbe rfl) rfl rfl];have f:=fun h=>c187 (c:=172) sgn x (by decide) h rfl
  obtain ⟨a1,a2⟩:=idx_le (l:=sgn) (x:=x);have a3:idxI sgn x≤13:=a2;generalize idxI sgn x=J at *;simp only [sgn,List.map_cons,List.map_nil] at f;simp -implicitDefEqProofs (disch:=omega) [f,litSliceD,List.replicate]
 obtain ⟨h',q⟩:=q;exact pureT cb172 hm q rfl rfl
def lvS:Nat→List ByteArray
 | 1=>[⟨#[42]⟩,⟨#[47]⟩,⟨#[37]⟩]
 | 2=>[⟨#[43]⟩,⟨#[45]⟩]
 | 3=>[⟨#[61,61]⟩,⟨#[33,61]⟩,⟨#[60]⟩,⟨#[60,61]⟩,⟨#[62]⟩,⟨#[62,61]⟩]
 | 4=>[⟨#[38,38]⟩]
 | _=>[⟨#[124,124]⟩]
def lvM:Nat→Int
 | 3=>1
 | _=>256
theorem sgn_cases (x:ByteArray):(∃ i,i<13∧sgn[i]?=some x)∨∀ y∈sgn,y≠x:=by
 by_cases h:x∈sgn
 · obtain ⟨i,hi,e⟩:=List.mem_iff_getElem.1 h
   exact .inl ⟨i,hi,by rw [←e]; exact List.getElem?_eq_getElem hi⟩
 · exact .inr fun y hy e=>h (e ▸ hy)
theorem lvS_sub {m:Nat}(hm:m≤4):∀ y∈lvS (m+1),y∈sgn:=by
 have:m=0∨m=1∨m=2∨m=3∨m=4:=by omega
 rcases this with rfl|rfl|rfl|rfl|rfl<;>simp [lvS,sgn]
theorem idx_out {l:List ByteArray}{x:ByteArray}(h:∀ y∈l,y≠x):idxI l x = -1 :=
 idx_none fun j hj y hy=>h y (List.mem_of_getElem? hy)
theorem opA_idx {m:Nat}(hm:m≤4)(x:ByteArray):(∀ i,opA (m+1) x=some i→0≤idxI (lvS (m+1)) x∧idxI sgn x=i∧x≠noText)∧(opA (m+1) x=none→idxI (lvS (m+1)) x<0):=by
 rcases sgn_cases x with ⟨i,hi,e⟩|h
 · have hm':m=0∨m=1∨m=2∨m=3∨m=4:=by omega
   have hi':i=0∨i=1∨i=2∨i=3∨i=4∨i=5∨i=6∨i=7∨i=8∨i=9∨i=10∨i=11∨i=12:=by omega
   rcases hi' with rfl|rfl|rfl|rfl|rfl|rfl|rfl|rfl|rfl|rfl|rfl|rfl|rfl <;>
    (simp only [sgn,List.getElem?_cons_succ,List.getElem?_cons_zero,Option.some.injEq] at e; subst e;
     rcases hm' with rfl|rfl|rfl|rfl|rfl<;>decide)
 · have h1:=idx_out h
   have h2:idxI (lvS (m+1)) x = -1:=idx_out fun y hy=>h y (lvS_sub hm y hy)
   have h3:opA (m+1) x=none:=by
    unfold opA;unfold idxI at h1
    cases hf:sgn.findIdx? (fun y=>decide (y=x)) with
    | none=>rfl
    | some i=>rw [hf] at h1; simp only at h1; omega
   rw [h2,h3];exact ⟨fun i e=>(by cases e),fun _=>(by decide)⟩
end Go.Proofs.YtaldobgfbkllfaaGreatDoor.P0
