import Derived.Test.YtaldobgfbkllfaaGreatDoorVaiSr
import Derived.Test.YtaldobgfbkllfaaGreatDoorVaiSl
set_option linter.unusedSimpArgs false
set_option linter.unusedVariables false
set_option linter.unusedSectionVars false
namespace Go.Proofs.YtaldobgfbkllfaaGreatDoor
open Vai
variable [GlP]
set_option maxHeartbeats 0
set_option maxRecDepth 100000
def binV (o:Option Nat):Int:=match o with|some q=>6+q|none=>0
section
variable {n:Nat}{h:H}{P:Nat}{L:Int}{all:List Tk}{i d:Nat}{out:List PT}{p w:Int}{m:Nat}
theorem l96 (hp:RX n h P L all i d out p w)(hi:i≤1000)(hal:all.length≤256)(h4:Sgn4 all):∀ (j k:Nat) (st:St),k+j=13→(∀ k',k'<k→isS (all.drop i) m k'=false)→At96 P m k h st →
  ∃ x nn env',loopω (LB cx prim 96 Tryz.f96 0) st=some (x,⟨nn,env',h⟩)∧nn=60∧((x = .ret∧env' 4 = .t (.int .i64 (binV (opA m (sg (all.drop i))))))∨(x = .exit 0∧opA m (sg (all.drop i))=none)):=by
 intro j
 induction j with
 | zero =>
  intro k st hk hno hst;obtain ⟨env',q⟩:=l96_end (by omega) hst
  refine ⟨.exit 0,60,env',?_,rfl,.inr ⟨rfl,?_⟩⟩
  · rw [loop_step,q]; rfl
  · cases ho:opA m (sg (all.drop i)) with
    | none=>rfl
    | some q =>
      obtain ⟨a1,a2⟩:=isS_of h4 ho;rw [hno q (by omega)] at a2
      cases a2
 | succ j ih =>
  intro k st hk hno hst;have q:=l96_step hp hi hal (by omega) hst
  by_cases hs:isS (all.drop i) m k=true
  · rw [if_pos hs] at q
    obtain ⟨env',q1,q2⟩:=q;refine ⟨.ret,60,env',?_,rfl,.inl ⟨rfl,?_⟩⟩
    · rw [loop_step,q1]; rfl
    · rw [q2,isS_some (by omega) hs]; rfl
  · rw [if_neg hs] at q
    obtain ⟨env',q1,q2⟩:=q;obtain ⟨x,nn,env2,q3,q4⟩:=ih (k+1) _ (by omega) (fun k' hk'=>by
      by_cases e:k'=k
      · rw [e]; simpa using hs
      · exact hno k' (by omega)) q2
    exact ⟨x,nn,env2,by rw [loop_step,q1]; exact q3,q4⟩
theorem s96 (hp:RX n h P L all i d out p w)(hi:i≤1000)(hal:all.length≤256)(h4:Sgn4 all) :
   call cx prim 96 [.ptr P 0 0 1,.t (.int .i64 m)] h=some (.t (.int .i64 (binV (opA m (sg (all.drop i))))),h):=by
 have lem:=l96 (m:=m) hp hi hal h4 13 0;unfold At96 at lem;rw [call_run (cx:=cx) rfl Tryz.func96 ok96 nd96 rfl (lbe rfl) rfl rfl];simp -implicitDefEqProofs (disch:=omega) [];generalize hst:(St.mk _ _ _:St)=st;obtain ⟨x,nn,env',q1,rfl,q2⟩:=lem st rfl (fun k' hk'=>by omega) (by subst hst; exact ⟨rfl,rfl,by simp,by simp,by simp,by simp⟩)
 rw [q1];rcases q2 with ⟨rfl,q2⟩|⟨rfl,q2⟩
 · simp -implicitDefEqProofs (disch:=omega) [q2]
 · rw [q2]
   simp -implicitDefEqProofs (disch:=omega) [binV]
theorem r96 {c:FuncId}(hp:RX n h P L all i d out p w)(hi:i≤1000)(hal:all.length≤256)(h4:Sgn4 all)(hm:md c 96 = .keep) :
 callD (cx.at c) (call cx prim) 96 [.ptr P 0 0 1,.t (.int .i64 m)] h=some (.t (.int .i64 (binV (opA m (sg (all.drop i))))),h):=keepT cb96 hm (s96 hp hi hal h4)
end
end Go.Proofs.YtaldobgfbkllfaaGreatDoor

namespace Go.Proofs.YtaldobgfbkllfaaGreatDoor
open Vai
variable [Gl]
set_option maxHeartbeats 0
set_option maxRecDepth 100000
section
variable {n:Nat}{h:H}{P:Nat}{L:Int}{all:List Tk}{i d:Nat}{out:List PT}{p w:Int}{m:Int}
theorem s50_err (hp:RX n h P L all i d out p w)(hw:w≠0):call cx prim 50 [.ptr P 0 0 1,.t (.int .i64 m)] h=some (.t (.int .i64 0),h):=by
 obtain ⟨x,o,hx,hc,ho,k⟩:=hp.get;have f6:=rs_6 ho (P0.Slice.cells hx) hc;have f51:=rs_f51 ho (P0.Slice.cells hx) hc;have e:=eqI_false hw;rw [call_run (cx:=cx) rfl Tryz.func50 ok50 nd50 rfl (lbe rfl) rfl rfl];simp -implicitDefEqProofs (disch:=omega) [-fieldAddrD,-nilCheckD,-load_ptr,-storeD,rs_nil ho,rs_f5 ho,f6,f51,e,hw]
theorem r50_err {c:FuncId}(hp:RX n h P L all i d out p w)(hw:w≠0)(hm:md c 50 = .keep):callD (cx.at c) (call cx prim) 50 [.ptr P 0 0 1,.t (.int .i64 m)] h=some (.t (.int .i64 0),h):=keepT cb50 hm (s50_err hp hw)
theorem s50_0 {r:PR}(hp:RX n h P L all i d out p 0)(ih:RRes 91 [] n h P L all d r):RRes 50 [.t (.int .i64 0)] n h P L all d r:=by
 obtain ⟨x,o,hx,hc,ho,k⟩:=hp.get;have f6:=rs_6 ho (P0.Slice.cells hx) hc;have f51:=rs_f51 ho (P0.Slice.cells hx) hc;clear k
 cases r with
 | ok v ts2 out2 =>
  obtain ⟨h1,i2,p2,a1,a2,q,g1,r1⟩:=ih;have q2:=keepT (cc:=cx.at 50) cb91 rfl q;refine ⟨h1,i2,p2,a1,a2,?_,g1,r1⟩;clear q;rw [call_run (cx:=cx) rfl Tryz.func50 ok50 nd50 rfl (lbe rfl) rfl rfl];simp -implicitDefEqProofs (disch:=omega) [-fieldAddrD,-nilCheckD,-load_ptr,-storeD,rs_nil ho,rs_f5 ho,f6,f51,eqI,q2]
 | er p' w' =>
  obtain ⟨h1,v,i2,out2,a1,q,g1,r1⟩:=ih;have q2:=keepT (cc:=cx.at 50) cb91 rfl q;refine ⟨h1,v,i2,out2,a1,?_,g1,r1⟩;clear q;rw [call_run (cx:=cx) rfl Tryz.func50 ok50 nd50 rfl (lbe rfl) rfl rfl];simp -implicitDefEqProofs (disch:=omega) [-fieldAddrD,-nilCheckD,-load_ptr,-storeD,rs_nil ho,rs_f5 ho,f6,f51,eqI,q2]
theorem drop_cons {all:List Tk}{i:Nat}{t:Tk}{ts:List Tk}(h:all.drop i=t::ts):all.drop (i+1)=ts∧i+1≤all.length:=by
 have hlt:i<all.length:=by
  rcases Nat.lt_or_ge i all.length with h1|h1
  · exact h1
  · rw [List.drop_eq_nil_of_le h1] at h; cases h
 rw [List.drop_eq_getElem_cons hlt] at h;cases h;exact ⟨rfl,hlt⟩
theorem deep_back (hp:RX n h P L all i (d+1) out p w):∃ h',RX n h' P L all i d out p w∧FrR n h h'∧nilCheckD h (.ptr P 0 0 1)=some (.ptr P 0 0 1) ∧
  fieldAddrD Tryz.prog h 101 (.ptr P 0 0 1) 3=some (.ptr P 0 3 1)∧loadD Tryz.prog h 3 (.ptr P 0 3 1)=some (.t (.int .i64 ((d:Int)+1)))∧storeD Tryz.prog h 3 (.ptr P 0 3 1) (.t (.int .i64 d))=some h':=by
 obtain ⟨x,o,hx,hc,ho,k⟩:=hp.get;exact ⟨_,(k i d p w).1,(k i d p w).2,rs_nil ho,rs_f3 ho,rs_3 ho (P0.Slice.cells hx),rs_s3 ho (P0.Slice.cells hx) hc d⟩
theorem why_is (hp:RX n h P L all i d out p w):nilCheckD h (.ptr P 0 0 1)=some (.ptr P 0 0 1)∧fieldAddrD Tryz.prog h 101 (.ptr P 0 0 1) 5=some (.ptr P 0 5 1)∧fieldAddrD Tryz.prog h 64 (.ptr P 0 5 1) 1=some (.ptr P 0 6 1)∧loadD Tryz.prog h 3 (.ptr P 0 6 1)=some (.t (.int .i64 w)):=by
 obtain ⟨x,o,hx,hc,ho,k⟩:=hp.get;exact ⟨rs_nil ho,rs_f5 ho,rs_f51 ho (P0.Slice.cells hx) hc,rs_6 ho (P0.Slice.cells hx) hc⟩
theorem s138_no (hp:RX n h P L all i d out p 0)(hi:i≤all.length)(hal:all.length≤256)(hy:sg (all.drop i)≠bOpen):RRes 138 [] n h P L all d (.er (plc L (all.drop i)) 131):=by
 have f1:=r92 (c:=138) (y:=bOpen) (by decide) hp (by omega) hal rfl
 have f2:=r52 (c:=138) hp (by omega) hal rfl
 obtain ⟨h1,f3,g1,r1⟩:=r51 (c:=138) hp (plc L (all.drop i)) 131 rfl;refine ⟨h1,0,i,out,by omega,?_,g1,r1⟩
 rw [call_run (cx:=cx) rfl Tryz.func138 ok138 nd138 rfl (lbe rfl) rfl rfl];simp only [hy,decide_false] at f1;simp only [bOpen] at f1;simp -implicitDefEqProofs (disch:=omega) [f1,f2,f3]
theorem s138_deep {t:Tk}{ts:List Tk}(hp:RX n h P L all i d out p 0)(hal:all.length≤256)(ht:all.drop i=t::ts)(hy:sg (t::ts)=bOpen)(hd:16≤d)(hd2:d≤1000):RRes 138 [] n h P L all d (.er t.pos 134):=by
 have hi:=(drop_cons ht).2;have f1:=r92 (c:=138) (y:=bOpen) (by decide) hp (by omega) hal rfl
 obtain ⟨h1,f2,g1,r1⟩:=r93_deep (c:=138) hp (by omega) hal hd hd2 rfl
 rw [ht] at f1 g1;have f3:=r50_err (c:=138) (m:=6) g1 (by omega) rfl
 have f4:=r94_err (c:=138) (y:=bClose) g1 (by omega) rfl
 obtain ⟨h9,g2,r2,j1,j2,j3,j4⟩:=deep_back g1;refine ⟨_,0,i+1,out,by omega,?_,g2,r1.trans r2⟩
 rw [call_run (cx:=cx) rfl Tryz.func138 ok138 nd138 rfl (lbe rfl) rfl rfl];simp only [hy,decide_true] at f1;simp only [bOpen] at f1;simp only [bClose] at f4;have e1:(d:Int)+1-1=d:=by omega
 simp -implicitDefEqProofs (disch:=omega) [-fieldAddrD,-nilCheckD,-load_ptr,-storeD,f1,f2,f3,f4,j1,j2,j3,j4,e1]
theorem s138_er {t:Tk}{ts:List Tk}{p' w':Int}(hw:w'≠0)(hp:RX n h P L all i d out p 0)(hal:all.length≤256)(ht:all.drop i=t::ts)(hy:sg (t::ts)=bOpen)(hd:d<16)
  (ih:∀ h,RX n h P L all (i+1) (d+1) out p 0→RRes 50 [.t (.int .i64 6)] n h P L all (d+1) (.er p' w')):RRes 138 [] n h P L all d (.er p' w'):=by
 have hi:=(drop_cons ht).2;have f1:=r92 (c:=138) (y:=bOpen) (by decide) hp (by omega) hal rfl
 obtain ⟨h1,f2,g1,r1⟩:=r93 (c:=138) hp (by omega) hal hd rfl
 rw [ht] at f1;obtain ⟨h2,v,i2,out2,a1,q,g2,r2⟩:=ih h1 g1;have q2:=keepT (cc:=cx.at 138) cb50 rfl q;have f4:=r94_err (c:=138) (y:=bClose) g2 hw rfl;obtain ⟨h9,g3,r3,j1,j2,j3,j4⟩:=deep_back g2;refine ⟨_,v,i2,out2,a1,?_,g3,(r1.trans r2).trans r3⟩;clear q;rw [call_run (cx:=cx) rfl Tryz.func138 ok138 nd138 rfl (lbe rfl) rfl rfl];simp only [hy,decide_true] at f1;simp only [bOpen] at f1;simp only [bClose] at f4;have e1:(d:Int)+1-1=d:=by omega
 simp -implicitDefEqProofs (disch:=omega) [-fieldAddrD,-nilCheckD,-load_ptr,-storeD,f1,f2,q2,f4,j1,j2,j3,j4,e1]
theorem s138_cl {t:Tk}{ts ts2:List Tk}{out2:List PT}{v:Nat}(hp:RX n h P L all i d out p 0)(hal:all.length≤256)(ht:all.drop i=t::ts)(hy:sg (t::ts)=bOpen)(hd:d<16)(hc:sg ts2≠bClose)
  (ih:∀ h,RX n h P L all (i+1) (d+1) out p 0→RRes 50 [.t (.int .i64 6)] n h P L all (d+1) (.ok v ts2 out2)):RRes 138 [] n h P L all d (.er (plc L ts2) 131):=by
 have hi:=(drop_cons ht).2;have f1:=r92 (c:=138) (y:=bOpen) (by decide) hp (by omega) hal rfl
 obtain ⟨h1,f2,g1,r1⟩:=r93 (c:=138) hp (by omega) hal hd rfl
 rw [ht] at f1;obtain ⟨h2,i2,p2,a1,rfl,q,g2,r2⟩:=ih h1 g1;have q2:=keepT (cc:=cx.at 138) cb50 rfl q;obtain ⟨h3,f4,g3,r3⟩:=r94_no (c:=138) (y:=bClose) (by decide) g2 (by omega) hal hc rfl
 obtain ⟨h9,g4,r4,j1,j2,j3,j4⟩:=deep_back g3;refine ⟨_,v,i2,out2,by omega,?_,g4,((r1.trans r2).trans r3).trans r4⟩
 clear q;rw [call_run (cx:=cx) rfl Tryz.func138 ok138 nd138 rfl (lbe rfl) rfl rfl];simp only [hy,decide_true] at f1;simp only [bOpen] at f1;simp only [bClose] at f4;have e1:(d:Int)+1-1=d:=by omega
 simp -implicitDefEqProofs (disch:=omega) [-fieldAddrD,-nilCheckD,-load_ptr,-storeD,f1,f2,q2,f4,j1,j2,j3,j4,e1]
theorem s138_ok {t t2:Tk}{ts ts2:List Tk}{out2:List PT}{v:Nat}(hp:RX n h P L all i d out p 0)(hal:all.length≤256)(ht:all.drop i=t::ts)(hy:sg (t::ts)=bOpen)(hd:d<16)(hc:sg (t2::ts2)=bClose)
  (ih:∀ h,RX n h P L all (i+1) (d+1) out p 0→RRes 50 [.t (.int .i64 6)] n h P L all (d+1) (.ok v (t2::ts2) out2)):RRes 138 [] n h P L all d (.ok v ts2 out2):=by
 have hi:=(drop_cons ht).2;have f1:=r92 (c:=138) (y:=bOpen) (by decide) hp (by omega) hal rfl
 obtain ⟨h1,f2,g1,r1⟩:=r93 (c:=138) hp (by omega) hal hd rfl
 rw [ht] at f1;obtain ⟨h2,i2,p2,a1,a2,q,g2,r2⟩:=ih h1 g1;have hi2:=drop_cons a2;have q2:=keepT (cc:=cx.at 138) cb50 rfl q;obtain ⟨h3,f4,g3,r3⟩:=r94 (c:=138) (y:=bClose) (by decide) g2 (by omega) hal (by rw [a2]; exact hc) rfl
 obtain ⟨h9,g4,r4,j1,j2,j3,j4⟩:=deep_back g3;refine ⟨_,i2+1,p2,hi2.2,hi2.1,?_,g4,((r1.trans r2).trans r3).trans r4⟩;clear q;rw [call_run (cx:=cx) rfl Tryz.func138 ok138 nd138 rfl (lbe rfl) rfl rfl];simp only [hy,decide_true] at f1;simp only [bOpen] at f1;simp only [bClose] at f4;have e1:(d:Int)+1-1=d:=by omega
 simp -implicitDefEqProofs (disch:=omega) [-fieldAddrD,-nilCheckD,-load_ptr,-storeD,f1,f2,q2,f4,j1,j2,j3,j4,e1]
end
end Go.Proofs.YtaldobgfbkllfaaGreatDoor

namespace Go.Proofs.YtaldobgfbkllfaaGreatDoor
open Vai
variable [GlP]
set_option maxHeartbeats 0
set_option maxRecDepth 100000
def At50 (M P a:Nat)(h:H)(st:St):Prop:=st.n=117∧st.h=h∧st.env 0 = .ptr P 0 0 1∧st.env 1 = .t (.int .i64 M)∧st.env 9 = .t (.int .i64 a)
def Res50 (n:Nat)(h:H)(P:Nat)(L:Int)(all:List Tk)(d:Nat)(st:St):PR→Prop
 | .ok v ts2 out2=>∃ st' i2 p,loopω (LB cx prim 50 Tryz.f50 0) st=some (.exit 0,st')∧st'.n=117∧st'.env 9 = .t (.int .i64 v)∧i2≤all.length∧all.drop i2=ts2∧RX n st'.h P L all i2 d out2 p 0∧FrR n h st'.h
 | .er p w=>∃ st' i2 out2,loopω (LB cx prim 50 Tryz.f50 0) st=some (.ret,st')∧st'.n=117∧st'.env 4 = .t (.int .i64 0)∧i2≤1000∧RX n st'.h P L all i2 d out2 p w∧FrR n h st'.h
section
variable {n:Nat}{h:H}{P:Nat}{L:Int}{all:List Tk}{i d:Nat}{out:List PT}{p w:Int}{M m a:Nat}
theorem inc_is (hp:RX n h P L all i d out p w):∃ h',RX n h' P L all (i+1) d out p w∧FrR n h h'∧nilCheckD h (.ptr P 0 0 1)=some (.ptr P 0 0 1) ∧
  fieldAddrD Tryz.prog h 101 (.ptr P 0 0 1) 2=some (.ptr P 0 2 1)∧loadD Tryz.prog h 3 (.ptr P 0 2 1)=some (.t (.int .i64 i))∧storeD Tryz.prog h 3 (.ptr P 0 2 1) (.t (.int .i64 ((i:Int)+1)))=some h':=by
 obtain ⟨x,o,hx,hc,ho,k⟩:=hp.get;exact ⟨_,(k (i+1) d p w).1,(k (i+1) d p w).2,rs_nil ho,rs_f2 ho,rs_2 ho (P0.Slice.cells hx),rs_s2 ho (P0.Slice.cells hx) hc ((i:Int)+1)⟩
theorem l50_end (hp:RX n h P L all i d out p 0)(hi:i≤all.length)(hal:all.length≤256)(h4:Sgn4 all)(hx:opA M (sg (all.drop i))=none){st:St}(hst:At50 M P a h st):Res50 n h P L all d st (.ok a (all.drop i) out):=by
 obtain ⟨nn,env,h'⟩:=st;obtain ⟨rfl,rfl,e0,e1,e9⟩:=hst;simp only at e0 e1 e9 hp ⊢;obtain ⟨w1,w2,w3,w4⟩:=why_is hp;have f:=r96 (c:=50) (m:=M) hp (by omega) hal h4 rfl
 rw [hx] at f;simp only [binV] at f;have key:∃ env',LB cx prim 50 Tryz.f50 0 ⟨117,env,h'⟩=some (.exit 0,⟨117,env',h'⟩)∧env' 9 = .t (.int .i64 a):=by
  rw [LB_run nd50 rfl];simp -implicitDefEqProofs (disch:=omega) [-fieldAddrD,-nilCheckD,-load_ptr,-storeD,e0,e1,e9,w1,w2,w3,w4,f,eqI]
 obtain ⟨env',q1,q2⟩:=key;exact ⟨_,i,p,by rw [loop_step,q1]; rfl,rfl,q2,hi,rfl,hp,FrR.refl _ _⟩
theorem l50_er {t:Tk}{ts:List Tk}{q:Nat}{p' w':Int}(hw:w'≠0)(hM:M=m+1)(hM6:M≤6)(hp:RX n h P L all i d out p 0)(hal:all.length≤256)(h4:Sgn4 all)(ht:all.drop i=t::ts)(hop:opA M (sg (t::ts))=some q)
  (ih:∀ h,RX n h P L all (i+1) d out p 0→RRes 50 [.t (.int .i64 m)] n h P L all d (.er p' w')) {st:St} (hst:At50 M P a h st):Res50 n h P L all d st (.er p' w'):=by
 obtain ⟨nn,env,h'⟩:=st;obtain ⟨rfl,rfl,e0,e1,e9⟩:=hst;simp only at e0 e1 e9 hp ⊢;have hi:=(drop_cons ht).2;obtain ⟨w1,w2,w3,w4⟩:=why_is hp;have f:=r96 (c:=50) (m:=M) hp (by omega) hal h4 rfl
 have f0:=r52 (c:=50) hp (by omega) hal rfl
 rw [ht] at f f0;rw [hop] at f;simp only [plc] at f0;obtain ⟨B,hB,hB0⟩:∃ B,B=binV (some q)∧eqI B 0=false:=⟨_,rfl,eqI_false (by simp only [binV]; omega)⟩
 rw [←hB] at f;obtain ⟨h1,g1,r1,i1,i2,i3,i4⟩:=inc_is hp;obtain ⟨h2,v,j2,out2,b1,q1,g2,r2⟩:=ih h1 g1;have q2:=keepT (cc:=cx.at 50) cb50 rfl q1;obtain ⟨x1,x2,x3,x4⟩:=why_is g2;have ew:=eqI_false hw;have em:(M:Int)-1=m:=by omega
 have hm6:m≤6:=by omega
 have eB:¬ (B=0):=by rw [hB]; simp only [binV]; omega
 clear q1 ih;have key:∃ env',LB cx prim 50 Tryz.f50 0 ⟨117,env,h'⟩=some (.ret,⟨117,env',h2⟩)∧env' 4 = .t (.int .i64 0):=by
  rw [LB_run nd50 rfl];simp -implicitDefEqProofs (disch:=omega) [-fieldAddrD,-nilCheckD,-load_ptr,-storeD,e0,e1,e9,w1,w2,w3,w4,f,f0,i1,i2,i3,i4,em,q2,x1,x2,x3,x4,ew,hw,eqI,eB]
 obtain ⟨env',k1,k2⟩:=key;exact ⟨_,j2,out2,by rw [loop_step,k1]; rfl,rfl,k2,b1,g2,r1.trans r2⟩
theorem l50_round {t:Tk}{ts ts2:List Tk}{q b:Nat}{out2:List PT}(hM:M=m+1)(hM6:M≤6)(hp:RX n h P L all i d out p 0)(hal:all.length≤256)(h4:Sgn4 all)(ht:all.drop i=t::ts)(hop:opA M (sg (t::ts))=some q)(hlen:out2.length≤1000000)
   (ih:∀ h,RX n h P L all (i+1) d out p 0→RRes 50 [.t (.int .i64 m)] n h P L all d (.ok b ts2 out2)) {st:St} (hst:At50 M P a h st) :
   ∃ x env' h' i2 p2,LB cx prim 50 Tryz.f50 0 st=some (x,⟨117,env',h'⟩)∧(x=if M=3 then .exit 0 else .norm)∧At50 M P out2.length h' ⟨117,env',h'⟩∧i2≤all.length∧all.drop i2=ts2∧RX n h' P L all i2 d (out2 ++ [nod (6+q) a b 0 t.pos]) p2 0∧FrR n h h':=by
 obtain ⟨nn,env,h'⟩:=st;obtain ⟨rfl,rfl,e0,e1,e9⟩:=hst;simp only at e0 e1 e9 hp ⊢;have hi:=(drop_cons ht).2;obtain ⟨w1,w2,w3,w4⟩:=why_is hp;have f:=r96 (c:=50) (m:=M) hp (by omega) hal h4 rfl
 have f0:=r52 (c:=50) hp (by omega) hal rfl
 rw [ht] at f f0;rw [hop] at f;simp only [plc] at f0;obtain ⟨B,hB,hB0⟩:∃ B,B=binV (some q)∧eqI B 0=false:=⟨_,rfl,eqI_false (by simp only [binV]; omega)⟩
 rw [←hB] at f;obtain ⟨h1,g1,r1,i1,i2,i3,i4⟩:=inc_is hp;obtain ⟨h2,j2,p2,b1,b2,q1,g2,r2⟩:=ih h1 g1;have q2:=keepT (cc:=cx.at 50) cb50 rfl q1;obtain ⟨x1,x2,x3,x4⟩:=why_is g2;have em:(M:Int)-1=m:=by omega
 have hm6:m≤6:=by omega
 have eB:¬ (B=0):=by rw [hB]; simp only [binV]; omega
 obtain ⟨h3,f9,g3,r3⟩:=r95 (c:=50) g2 hlen (nod B a b 0 t.pos) rfl;rw [hB] at g3;simp only [nod,prP,noText] at f9;clear q1 ih;unfold At50;by_cases h3M:M=3
 · have e3:(M:Int)=3:=by omega
   have em2:(m:Int)=2:=by omega
   rw [e3] at f e1;rw [em2] at q2;have key:∃ env',LB cx prim 50 Tryz.f50 0 ⟨117,env,h'⟩=some (.exit 0,⟨117,env',h3⟩)∧env' 0 = .ptr P 0 0 1∧env' 1 = .t (.int .i64 M)∧env' 9 = .t (.int .i64 out2.length):=by
    rw [LB_run nd50 rfl];simp -implicitDefEqProofs (disch:=omega) [-fieldAddrD,-nilCheckD,-load_ptr,-storeD,e0,e1,e9,w1,w2,w3,w4,f,f0,i1,i2,i3,i4,em,q2,x1,x2,x3,x4,eqI,eB,f9,e3]
   obtain ⟨env',k1,k2,k3,k4⟩:=key;exact ⟨_,env',h3,j2,p2,k1,by rw [if_pos h3M],⟨rfl,rfl,k2,k3,k4⟩,b1,b2,g3,(r1.trans r2).trans r3⟩
 · have e3:¬ ((M:Int)=3):=by omega
   have key:∃ env',LB cx prim 50 Tryz.f50 0 ⟨117,env,h'⟩=some (.norm,⟨117,env',h3⟩)∧env' 0 = .ptr P 0 0 1∧env' 1 = .t (.int .i64 M)∧env' 9 = .t (.int .i64 out2.length):=by
    rw [LB_run nd50 rfl];simp -implicitDefEqProofs (disch:=omega) [-fieldAddrD,-nilCheckD,-load_ptr,-storeD,e0,e1,e9,w1,w2,w3,w4,f,f0,i1,i2,i3,i4,em,q2,x1,x2,x3,x4,eqI,eB,f9,e3]
   obtain ⟨env',k1,k2,k3,k4⟩:=key;exact ⟨_,env',h3,j2,p2,k1,by rw [if_neg h3M],⟨rfl,rfl,k2,k3,k4⟩,b1,b2,g3,(r1.trans r2).trans r3⟩
theorem l50_ok {t:Tk}{ts ts2:List Tk}{q b:Nat}{out2:List PT}{r:PR}(hM:M=m+1)(hM6:M≤6)(hM3:M≠3)(hp:RX n h P L all i d out p 0)(hal:all.length≤256)(h4:Sgn4 all)(ht:all.drop i=t::ts)(hop:opA M (sg (t::ts))=some q)(hlen:out2.length≤1000000)
  (ih:∀ h,RX n h P L all (i+1) d out p 0→RRes 50 [.t (.int .i64 m)] n h P L all d (.ok b ts2 out2))
  (ih2:∀ h st i2 p2,i2≤all.length→all.drop i2=ts2→RX n h P L all i2 d (out2 ++ [nod (6+q) a b 0 t.pos]) p2 0→At50 M P out2.length h st→Res50 n h P L all d st r) {st:St} (hst:At50 M P a h st):Res50 n h P L all d st r:=by
 obtain ⟨x,env',h',i2,p2,q1,q2,q3,q4,q5,q6,q7⟩:=l50_round hM hM6 hp hal h4 ht hop hlen ih hst;rw [if_neg hM3] at q2;subst q2;have k:=ih2 h' _ i2 p2 q4 q5 q6 q3
 cases r with
 | ok v ts4 out4 =>
  obtain ⟨st',j2,p3,k1,k2,k3,k4,k5,k6,k7⟩:=k;exact ⟨st',j2,p3,by rw [loop_step,q1]; exact k1,k2,k3,k4,k5,k6,q7.trans k7⟩
 | er p' w' =>
  obtain ⟨st',j2,out3,k1,k2,k3,k4,k5,k6⟩:=k;exact ⟨st',j2,out3,by rw [loop_step,q1]; exact k1,k2,k3,k4,k5,q7.trans k6⟩
theorem l50_brk {t:Tk}{ts ts2:List Tk}{q b:Nat}{out2:List PT}(hM:M=m+1)(hM6:M≤6)(hM3:M=3)(hp:RX n h P L all i d out p 0)(hal:all.length≤256)(h4:Sgn4 all)(ht:all.drop i=t::ts)(hop:opA M (sg (t::ts))=some q)(hlen:out2.length≤1000000)
  (ih:∀ h,RX n h P L all (i+1) d out p 0→RRes 50 [.t (.int .i64 m)] n h P L all d (.ok b ts2 out2)) {st:St} (hst:At50 M P a h st):Res50 n h P L all d st (.ok out2.length ts2 (out2 ++ [nod (6+q) a b 0 t.pos])):=by
 obtain ⟨x,env',h',i2,p2,q1,q2,q3,q4,q5,q6,q7⟩:=l50_round hM hM6 hp hal h4 ht hop hlen ih hst;rw [if_pos hM3] at q2;subst q2;exact ⟨_,i2,p2,by rw [loop_step,q1]; rfl,rfl,q3.2.2.2.2,q4,q5,q6,q7⟩
end
end Go.Proofs.YtaldobgfbkllfaaGreatDoor

namespace Go.Proofs.YtaldobgfbkllfaaGreatDoor
open Vai
variable [Gl]
set_option maxHeartbeats 0
set_option maxRecDepth 100000
theorem neg_no {x:ByteArray}(h:negA x=none):x≠bMinus∧x≠bNot:=by
 unfold negA at h;by_cases h1:x=bMinus
 · rw [if_pos h1] at h; cases h
 by_cases h2:x=bNot
 · rw [if_neg h1,if_pos h2] at h; cases h
 · exact ⟨h1,h2⟩
theorem neg_some {x:ByteArray}{op:Int}(h:negA x=some op):(x=bMinus∧op=3)∨(x=bNot∧op=4):=by
 unfold negA at h;by_cases h1:x=bMinus
 · rw [if_pos h1] at h; cases h; exact .inl ⟨h1,rfl⟩
 by_cases h2:x=bNot
 · rw [if_neg h1,if_pos h2] at h; cases h; exact .inr ⟨h2,rfl⟩
 · rw [if_neg h1,if_neg h2] at h; cases h
section
variable {n:Nat}{h:H}{P:Nat}{L:Int}{all:List Tk}{i d:Nat}{out:List PT}{p w:Int}{t:Tk}{ts:List Tk}{v:Nat}{ts2:List Tk}{out2:List PT}{op:Int}{r:PR}
theorem s91_deep (hp:RX n h P L all i d out p 0)(hal:all.length≤256)(ht:all.drop i=t::ts)(hn:negA (sg (t::ts))=some op)(hd:16≤d)(hd2:d≤1000):RRes 91 [] n h P L all d (.er t.pos 134):=by
 have hi:=(drop_cons ht).2;have f0:=r52 (c:=91) hp (by omega) hal rfl
 have f1:=r92 (c:=91) (y:=bMinus) (by decide) hp (by omega) hal rfl
 have f1':=r92 (c:=91) (y:=bNot) (by decide) hp (by omega) hal rfl
 rw [ht] at f0 f1 f1';simp only [plc] at f0;obtain ⟨h1,f2,g1,r1⟩:=r93_deep (c:=91) hp (by omega) hal hd hd2 rfl
 rw [ht] at g1;have f3:=r50_err (c:=91) (m:=0) g1 (by omega) rfl
 obtain ⟨h9,g2,r2,j1,j2,j3,j4⟩:=deep_back g1;obtain ⟨w1,w2,w3,w4⟩:=why_is g2;refine ⟨_,0,i+1,out,by omega,?_,g2,r1.trans r2⟩
 have q:=trivial;clear q;have e1:(d:Int)+1-1=d:=by omega
 rw [call_run (cx:=cx) rfl Tryz.func91 ok91 nd91 rfl (lbe rfl) rfl rfl];rcases neg_some hn with ⟨e,rfl⟩|⟨e,rfl⟩<;>simp only [e,decide_true,show decide (bMinus=bNot)=false from by decide,show decide (bNot=bMinus)=false from by decide] at f1 f1'<;>simp only [bMinus,bNot] at f1 f1' <;>
  simp -implicitDefEqProofs (disch:=omega) [-fieldAddrD,-nilCheckD,-load_ptr,-storeD,f0,f1,f1',f2,f3,j1,j2,j3,j4,e1,w1,w2,w3,w4,eqI]
theorem s91_er {p' w':Int}(hw:w'≠0)(hp:RX n h P L all i d out p 0)(hal:all.length≤256)(ht:all.drop i=t::ts)(hn:negA (sg (t::ts))=some op)(hd:d<16)
  (ih:∀ h,RX n h P L all (i+1) (d+1) out p 0→RRes 50 [.t (.int .i64 0)] n h P L all (d+1) (.er p' w')):RRes 91 [] n h P L all d (.er p' w'):=by
 have hi:=(drop_cons ht).2;have f0:=r52 (c:=91) hp (by omega) hal rfl
 have f1:=r92 (c:=91) (y:=bMinus) (by decide) hp (by omega) hal rfl
 have f1':=r92 (c:=91) (y:=bNot) (by decide) hp (by omega) hal rfl
 rw [ht] at f0 f1 f1';simp only [plc] at f0;obtain ⟨h1,f2,g1,r1⟩:=r93 (c:=91) hp (by omega) hal hd rfl
 obtain ⟨h2,v,i2,out2,a1,q,g2,r2⟩:=ih h1 g1;have q2:=keepT (cc:=cx.at 91) cb50 rfl q;obtain ⟨h9,g3,r3,j1,j2,j3,j4⟩:=deep_back g2;obtain ⟨w1,w2,w3,w4⟩:=why_is g3;have ew:=eqI_false hw;refine ⟨_,0,i2,out2,a1,?_,g3,(r1.trans r2).trans r3⟩;clear q;have e1:(d:Int)+1-1=d:=by omega
 rw [call_run (cx:=cx) rfl Tryz.func91 ok91 nd91 rfl (lbe rfl) rfl rfl];rcases neg_some hn with ⟨e,rfl⟩|⟨e,rfl⟩<;>simp only [e,decide_true,show decide (bMinus=bNot)=false from by decide,show decide (bNot=bMinus)=false from by decide] at f1 f1'<;>simp only [bMinus,bNot] at f1 f1' <;>
  simp -implicitDefEqProofs (disch:=omega) [-fieldAddrD,-nilCheckD,-load_ptr,-storeD,f0,f1,f1',f2,q2,j1,j2,j3,j4,e1,w1,w2,w3,w4,ew,hw]
theorem s91_ok (hp:RX n h P L all i d out p 0)(hal:all.length≤256)(ht:all.drop i=t::ts)(hn:negA (sg (t::ts))=some op)(hd:d<16)(hlen:out2.length≤1000000)
  (ih:∀ h,RX n h P L all (i+1) (d+1) out p 0→RRes 50 [.t (.int .i64 0)] n h P L all (d+1) (.ok v ts2 out2)):RRes 91 [] n h P L all d (.ok out2.length ts2 (out2 ++ [nod op v 0 0 t.pos])):=by
 have hi:=(drop_cons ht).2;have f0:=r52 (c:=91) hp (by omega) hal rfl
 have f1:=r92 (c:=91) (y:=bMinus) (by decide) hp (by omega) hal rfl
 have f1':=r92 (c:=91) (y:=bNot) (by decide) hp (by omega) hal rfl
 rw [ht] at f0 f1 f1';simp only [plc] at f0;obtain ⟨h1,f2,g1,r1⟩:=r93 (c:=91) hp (by omega) hal hd rfl
 obtain ⟨h2,i2,p2,a1,a2,q,g2,r2⟩:=ih h1 g1;have q2:=keepT (cc:=cx.at 91) cb50 rfl q;obtain ⟨h9,g3,r3,j1,j2,j3,j4⟩:=deep_back g2;obtain ⟨w1,w2,w3,w4⟩:=why_is g3;obtain ⟨h4,f9,g4,r4⟩:=r95 (c:=91) g3 hlen (nod op v 0 0 t.pos) rfl;simp only [nod,prP,noText] at f9;refine ⟨h4,i2,p2,a1,a2,?_,g4,((r1.trans r2).trans r3).trans r4⟩;clear q;have e1:(d:Int)+1-1=d:=by omega
 rw [call_run (cx:=cx) rfl Tryz.func91 ok91 nd91 rfl (lbe rfl) rfl rfl];rcases neg_some hn with ⟨e,rfl⟩|⟨e,rfl⟩<;>simp only [e,decide_true,show decide (bMinus=bNot)=false from by decide,show decide (bNot=bMinus)=false from by decide] at f1 f1'<;>simp only [bMinus,bNot] at f1 f1' <;>
  simp -implicitDefEqProofs (disch:=omega) [-fieldAddrD,-nilCheckD,-load_ptr,-storeD,f0,f1,f1',f2,q2,j1,j2,j3,j4,e1,w1,w2,w3,w4,eqI,f9]
theorem s91_nil (hp:RX n h P L all i d out p 0)(hi:i≤all.length)(hal:all.length≤256)(ht:all.drop i=[]):RRes 91 [] n h P L all d (.er L 131):=by
 have f0:=r52 (c:=91) hp (by omega) hal rfl
 have f1:=r92 (c:=91) (y:=bMinus) (by decide) hp (by omega) hal rfl
 have f1':=r92 (c:=91) (y:=bNot) (by decide) hp (by omega) hal rfl
 rw [ht] at f0 f1 f1';simp only [show sg []≠bMinus by decide,show sg []≠bNot by decide,decide_false] at f1 f1'
 simp only [bMinus,bNot] at f1 f1';simp only [plc] at f0;obtain ⟨x,o,hx,hc,ho,k⟩:=hp.get;have hxc:=P0.Slice.cells hx;have l1:=rs_1 ho hxc;have l2:=rs_2 ho hxc;have hlen0:=hx.len (P:=Tryz.prog) (t:=80) tk80 h;rw [List.length_map] at hlen0;obtain ⟨h1,f2,g1,r1⟩:=r51 (c:=91) hp L 131 rfl;have hlt:all.length≤i:=by
  have:=congrArg List.length ht; simp at this; omega
 refine ⟨h1,0,i,out,by omega,?_,g1,r1⟩
 rw [call_run (cx:=cx) rfl Tryz.func91 ok91 nd91 rfl (lbe rfl) rfl rfl];simp -implicitDefEqProofs (disch:=omega) [-fieldAddrD,-nilCheckD,-load_ptr,-storeD,f0,f1,f1',l1,l2,rs_nil ho,rs_f1 ho,rs_f2 ho,hlen0,hlt,f2]
abbrev F91 (h H1:H)(P:Nat)(A:List T)(i:Nat)(t:Tk):Prop :=
 callD (cx.at 91) (call cx prim) 52 [.ptr P 0 0 1] h=some (.t (.int .i64 t.pos),h) ∧
 callD (cx.at 91) (call cx prim) 92 [.ptr P 0 0 1,.t (.str ⟨#[45]⟩)] h=some (.t (.bool false),h) ∧
 callD (cx.at 91) (call cx prim) 92 [.ptr P 0 0 1,.t (.str ⟨#[33]⟩)] h=some (.t (.bool false),h) ∧
 loadD Tryz.prog h 80 (.ptr P 0 1 1)=some (.t (.slice A))∧loadD Tryz.prog h 3 (.ptr P 0 2 1)=some (.t (.int .i64 i))∧nilCheckD h (.ptr P 0 0 1)=some (.ptr P 0 0 1) ∧
 fieldAddrD Tryz.prog h 101 (.ptr P 0 0 1) 1=some (.ptr P 0 1 1)∧fieldAddrD Tryz.prog h 101 (.ptr P 0 0 1) 2=some (.ptr P 0 2 1)∧i<A.length∧A[i]?=some (Tk.t t) ∧
 (∀ v,loadD Tryz.prog (h.push v) 80 (.ptr P 0 1 1)=some (.t (.slice A)))∧(∀ v,loadD Tryz.prog (h.push v) 3 (.ptr P 0 2 1)=some (.t (.int .i64 i)))∧(∀ v,nilCheckD (h.push v) (.ptr P 0 0 1)=some (.ptr P 0 0 1)) ∧
 (∀ v,fieldAddrD Tryz.prog (h.push v) 101 (.ptr P 0 0 1) 1=some (.ptr P 0 1 1))∧(∀ v,fieldAddrD Tryz.prog (h.push v) 101 (.ptr P 0 0 1) 2=some (.ptr P 0 2 1)) ∧
 storeD Tryz.prog (h.push (.row 134 4 [.t (.agg [.int .i64 0,.str ⟨#[]⟩,.int .i64 0,.int .i64 0])])) 134 (.ptr h.next 0 0 1) (.t (Tk.t t))=some H1 ∧
 loadD Tryz.prog H1 3 (.ptr h.next 0 0 1)=some (.t (.int .i64 t.kind))∧fieldAddrD Tryz.prog H1 134 (.ptr h.next 0 0 1) 0=some (.ptr h.next 0 0 1)
theorem pre91 (hp:RX n h P L all i d out p 0)(hal:all.length≤256)(ht:all.drop i=t::ts)(hn:negA (sg (t::ts))=none) :
  ∃ A H1,F91 h H1 P A i t∧RX n H1 P L all i d out p 0∧FrR n h H1∧H1.objs h.next=some (.row 134 4 [.t (Tk.t t)]):=by
 obtain ⟨ne1,ne2⟩:=neg_no hn;have hi:=(drop_cons ht).2;have f0:=r52 (c:=91) hp (by omega) hal rfl
 have f1:=r92 (c:=91) (y:=bMinus) (by decide) hp (by omega) hal rfl
 have f1':=r92 (c:=91) (y:=bNot) (by decide) hp (by omega) hal rfl
 rw [ht] at f0 f1 f1';simp only [ne1,ne2,decide_false] at f1 f1';obtain ⟨x,o,hx,hc,ho,k⟩:=hp.get;have hxc:=P0.Slice.cells hx;have hlt:i<all.length:=by omega
 have hPn:P<h.next:=hp.2.1
 have htk:all[i]?=some t:=by
  have:=List.drop_eq_getElem_cons hlt;rw [ht] at this;rw [List.getElem?_eq_getElem hlt]; cases this; rfl
 obtain rfl:=hx.eq_of_ne fun e=>by have:=congrArg List.length e; simp at this; subst this; simp at hlt
 have hb:∀ v,(h.push v).objs P=some (rsO L (.slice (all.map Tk.t)) i d o p 0):=fun v=>by simp only [push_objs,upd_ne _ _ (show P≠h.next by omega)]; exact ho
 have a1:((h.push (.row 134 4 [.t (.agg [.int .i64 0,.str ⟨#[]⟩,.int .i64 0,.int .i64 0])])).set h.next (.row 134 4 [.t (Tk.t t)])).objs h.next=some (.row 134 4 [.t (Tk.t t)]):=by simp
 obtain ⟨p1,r1⟩:RX n _ P L all i d out p 0∧FrR n h _:=hp.keep (h':=(h.push (.row 134 4 [.t (.agg [.int .i64 0,.str ⟨#[]⟩,.int .i64 0,.int .i64 0])])).set h.next (.row 134 4 [.t (Tk.t t)])) (by simp) rfl fun id hid=>by simp [show ¬ (id=h.next) by omega]
 exact ⟨all.map Tk.t,_,⟨f0,f1,f1',rs_1 ho hxc,rs_2 ho hxc,rs_nil ho,rs_f1 ho,rs_f2 ho,by simpa using hlt,by rw [List.getElem?_map,htk]; rfl,fun v=>rs_1 (hb v) hxc,fun v=>rs_2 (hb v) hxc,fun v=>rs_nil (hb v),fun v=>rs_f1 (hb v),fun v=>rs_f2 (hb v),
  P0.kst (a:=0) (b:=0) (c:=0) (e:=⟨#[]⟩) (by simp),P0.kl0 a1,P0.kf0 a1⟩,p1,r1,a1⟩
abbrev G91 (H1 H2:H)(P k i:Nat)(t:Tk):Prop :=
 nilCheckD H1 (.ptr P 0 0 1)=some (.ptr P 0 0 1)∧fieldAddrD Tryz.prog H1 101 (.ptr P 0 0 1) 2=some (.ptr P 0 2 1)∧loadD Tryz.prog H1 3 (.ptr P 0 2 1)=some (.t (.int .i64 i))∧storeD Tryz.prog H1 3 (.ptr P 0 2 1) (.t (.int .i64 ((i:Int)+1)))=some H2 ∧
 loadD Tryz.prog H2 3 (.ptr k 0 0 1)=some (.t (.int .i64 t.kind))∧loadD Tryz.prog H2 9 (.ptr k 0 1 1)=some (.t (.str t.text))∧loadD Tryz.prog H2 2 (.ptr k 0 2 1)=some (.t (.int .i64 t.n)) ∧
 fieldAddrD Tryz.prog H2 134 (.ptr k 0 0 1) 0=some (.ptr k 0 0 1)∧fieldAddrD Tryz.prog H2 134 (.ptr k 0 0 1) 1=some (.ptr k 0 1 1)∧fieldAddrD Tryz.prog H2 134 (.ptr k 0 0 1) 2=some (.ptr k 0 2 1)
theorem nxt91 {H1:H}{k:Nat}(p1:RX n H1 P L all i d out p 0)(a1:H1.objs k=some (.row 134 4 [.t (Tk.t t)]))(hk:k≠P):∃ H2,G91 H1 H2 P k i t∧RX n H2 P L all (i+1) d out p 0∧FrR n H1 H2:=by
 obtain ⟨x,o,hx,hc,ho,q⟩:=p1.get;have a2:(H1.set P (rsO L x ((i:Int)+1) d o p 0)).objs k=some (.row 134 4 [.t (Tk.t t)]):=by simp [a1,hk]
 exact ⟨_,⟨rs_nil ho,rs_f2 ho,rs_2 ho (P0.Slice.cells hx),rs_s2 ho (P0.Slice.cells hx) hc ((i:Int)+1),P0.kl0 a2,P0.kl1 a2,P0.kl2 a2,P0.kf0 a2,P0.kf1 a2,P0.kf2 a2⟩,(q (i+1) d p 0).1,(q (i+1) d p 0).2⟩
theorem s91_br (hp:RX n h P L all i d out p 0)(hal:all.length≤256)(ht:all.drop i=t::ts)(hn:negA (sg (t::ts))=none)(h4:t.kind=4)(ih:∀ h,RX n h P L all i d out p 0→RRes 138 [] n h P L all d r):RRes 91 [] n h P L all d r:=by
 obtain ⟨A,H1,fq,p1,r1,a1⟩:=pre91 hp hal ht hn;have hi:=drop_cons ht;have hPn:P<h.next:=hp.2.1
 have kih:=ih H1 p1
 cases r with
 | ok v ts2 out2 =>
  obtain ⟨h2,i2,p2,b1,b2,q,g2,r2⟩:=kih;have q2:=keepT (cc:=cx.at 91) cb138 rfl q;refine ⟨h2,i2,p2,b1,b2,?_,g2,r1.trans r2⟩;clear q;rw [call_run (cx:=cx) rfl Tryz.func91 ok91 nd91 rfl (lbe rfl) rfl rfl];simp -implicitDefEqProofs (disch:=omega) [-fieldAddrD,-nilCheckD,-load_ptr,-load_eptr,-storeD,-getElem?_pos,fq,P0.tkl,P0.tlw,md,eqI,h4,q2]
 | er p' w' =>
  obtain ⟨h2,v,i2,out2,b1,q,g2,r2⟩:=kih;have q2:=keepT (cc:=cx.at 91) cb138 rfl q;refine ⟨h2,v,i2,out2,b1,?_,g2,r1.trans r2⟩;clear q;rw [call_run (cx:=cx) rfl Tryz.func91 ok91 nd91 rfl (lbe rfl) rfl rfl];simp -implicitDefEqProofs (disch:=omega) [-fieldAddrD,-nilCheckD,-load_ptr,-load_eptr,-storeD,-getElem?_pos,fq,P0.tkl,P0.tlw,md,eqI,h4,q2]
theorem s91_num (hp:RX n h P L all i d out p 0)(hal:all.length≤256)(ht:all.drop i=t::ts)(hn:negA (sg (t::ts))=none)(a1k:t.kind=1)(hlen:out.length≤1000000):RRes 91 [] n h P L all d (.ok out.length ts (out ++ [⟨1,0,0,0,1,t.n,noText,noText,t.pos⟩])):=by
 obtain ⟨A,H1,fq,p1,r1,a1⟩:=pre91 hp hal ht hn;have hi:=drop_cons ht;have hPn:P<h.next:=hp.2.1
 obtain ⟨H2,gq,p2,r2⟩:=nxt91 p1 a1 (by omega)
 obtain ⟨h3,f9,g3,r3⟩:=r95 (c:=91) p2 hlen ⟨1,0,0,0,1,t.n,noText,noText,t.pos⟩ rfl;simp only [prP,noText] at f9;refine ⟨h3,i+1,p,hi.2,hi.1,?_,g3,(r1.trans r2).trans r3⟩;rw [call_run (cx:=cx) rfl Tryz.func91 ok91 nd91 rfl (lbe rfl) rfl rfl];simp -implicitDefEqProofs (disch:=omega) [-fieldAddrD,-nilCheckD,-load_ptr,-load_eptr,-storeD,-getElem?_pos,fq,P0.tkl,P0.tlw,md,eqI,gq,f9,a1k]
theorem s91_text (hp:RX n h P L all i d out p 0)(hal:all.length≤256)(ht:all.drop i=t::ts)(hn:negA (sg (t::ts))=none)(a1k:t.kind=2)(hlen:out.length≤1000000):RRes 91 [] n h P L all d (.ok out.length ts (out ++ [⟨1,0,0,0,3,0,t.text,noText,t.pos⟩])):=by
 obtain ⟨A,H1,fq,p1,r1,a1⟩:=pre91 hp hal ht hn;have hi:=drop_cons ht;have hPn:P<h.next:=hp.2.1
 obtain ⟨H2,gq,p2,r2⟩:=nxt91 p1 a1 (by omega)
 obtain ⟨h3,f9,g3,r3⟩:=r95 (c:=91) p2 hlen ⟨1,0,0,0,3,0,t.text,noText,t.pos⟩ rfl;simp only [prP,noText] at f9;refine ⟨h3,i+1,p,hi.2,hi.1,?_,g3,(r1.trans r2).trans r3⟩;rw [call_run (cx:=cx) rfl Tryz.func91 ok91 nd91 rfl (lbe rfl) rfl rfl];simp -implicitDefEqProofs (disch:=omega) [-fieldAddrD,-nilCheckD,-load_ptr,-load_eptr,-storeD,-getElem?_pos,fq,P0.tkl,P0.tlw,md,eqI,gq,f9,a1k]
theorem s91_true (hp:RX n h P L all i d out p 0)(hal:all.length≤256)(ht:all.drop i=t::ts)(hn:negA (sg (t::ts))=none)(b1:t.kind≠1)(b2:t.kind≠2)(b4:t.kind≠4)(b5:t.text=bTrue)(hlen:out.length≤1000000):RRes 91 [] n h P L all d (.ok out.length ts (out ++ [⟨1,0,0,0,2,1,noText,noText,t.pos⟩])):=by
 obtain ⟨A,H1,fq,p1,r1,a1⟩:=pre91 hp hal ht hn;have hi:=drop_cons ht;have hPn:P<h.next:=hp.2.1
 obtain ⟨H2,gq,p2,r2⟩:=nxt91 p1 a1 (by omega)
 obtain ⟨h3,f9,g3,r3⟩:=r95 (c:=91) p2 hlen ⟨1,0,0,0,2,1,noText,noText,t.pos⟩ rfl;simp only [prP,noText] at f9;refine ⟨h3,i+1,p,hi.2,hi.1,?_,g3,(r1.trans r2).trans r3⟩;rw [call_run (cx:=cx) rfl Tryz.func91 ok91 nd91 rfl (lbe rfl) rfl rfl];simp -implicitDefEqProofs (disch:=omega) [-fieldAddrD,-nilCheckD,-load_ptr,-load_eptr,-storeD,-getElem?_pos,fq,P0.tkl,P0.tlw,md,eqI,gq,f9,b1,b2,b4,eqI_false b1,eqI_false b2,eqI_false b4,b5,bTrue,P0.deq']
theorem s91_false (hp:RX n h P L all i d out p 0)(hal:all.length≤256)(ht:all.drop i=t::ts)(hn:negA (sg (t::ts))=none)(b1:t.kind≠1)(b2:t.kind≠2)(b4:t.kind≠4)(b5:t.text=bFalse)(hlen:out.length≤1000000):RRes 91 [] n h P L all d (.ok out.length ts (out ++ [⟨1,0,0,0,2,0,noText,noText,t.pos⟩])):=by
 obtain ⟨A,H1,fq,p1,r1,a1⟩:=pre91 hp hal ht hn;have hi:=drop_cons ht;have hPn:P<h.next:=hp.2.1
 obtain ⟨H2,gq,p2,r2⟩:=nxt91 p1 a1 (by omega)
 obtain ⟨h3,f9,g3,r3⟩:=r95 (c:=91) p2 hlen ⟨1,0,0,0,2,0,noText,noText,t.pos⟩ rfl;simp only [prP,noText] at f9;refine ⟨h3,i+1,p,hi.2,hi.1,?_,g3,(r1.trans r2).trans r3⟩;rw [call_run (cx:=cx) rfl Tryz.func91 ok91 nd91 rfl (lbe rfl) rfl rfl];simp -implicitDefEqProofs (disch:=omega) [-fieldAddrD,-nilCheckD,-load_ptr,-load_eptr,-storeD,-getElem?_pos,fq,P0.tkl,P0.tlw,md,eqI,gq,f9,b1,b2,b4,eqI_false b1,eqI_false b2,eqI_false b4,b5,bFalse,P0.deq',show eqS ⟨#[102,97,108,115,101]⟩ ⟨#[116,114,117,101]⟩=false from by decide]
theorem s91_var (hp:RX n h P L all i d out p 0)(hal:all.length≤256)(ht:all.drop i=t::ts)(hn:negA (sg (t::ts))=none)(b1:t.kind≠1)(b2:t.kind≠2)(b4:t.kind≠4)(b5:eqS t.text ⟨#[116,114,117,101]⟩=false)(b6:eqS t.text ⟨#[102,97,108,115,101]⟩=false)(b7:eqS t.text ⟨#[108,101,110]⟩=false)(hlen:out.length≤1000000):RRes 91 [] n h P L all d (.ok out.length ts (out ++ [⟨2,0,0,0,0,0,noText,t.text,t.pos⟩])):=by
 obtain ⟨A,H1,fq,p1,r1,a1⟩:=pre91 hp hal ht hn;have hi:=drop_cons ht;have hPn:P<h.next:=hp.2.1
 obtain ⟨H2,gq,p2,r2⟩:=nxt91 p1 a1 (by omega)
 obtain ⟨h3,f9,g3,r3⟩:=r95 (c:=91) p2 hlen ⟨2,0,0,0,0,0,noText,t.text,t.pos⟩ rfl;simp only [prP,noText] at f9;refine ⟨h3,i+1,p,hi.2,hi.1,?_,g3,(r1.trans r2).trans r3⟩;rw [call_run (cx:=cx) rfl Tryz.func91 ok91 nd91 rfl (lbe rfl) rfl rfl];simp -implicitDefEqProofs (disch:=omega) [-fieldAddrD,-nilCheckD,-load_ptr,-load_eptr,-storeD,-getElem?_pos,fq,P0.tkl,P0.tlw,md,eqI,gq,f9,b1,b2,b4,eqI_false b1,eqI_false b2,eqI_false b4,b5,b6,b7]
theorem s91_ler {p' w':Int}(hw:w'≠0)(hp:RX n h P L all i d out p 0)(hal:all.length≤256)(ht:all.drop i=t::ts)(hn:negA (sg (t::ts))=none)(b1:t.kind≠1)(b2:t.kind≠2)(b4:t.kind≠4)(b5:t.text=bLen)
  (ih:∀ h,RX n h P L all (i+1) d out p 0→RRes 138 [] n h P L all d (.er p' w')):RRes 91 [] n h P L all d (.er p' w'):=by
 obtain ⟨A,H1,fq,p1,r1,a1⟩:=pre91 hp hal ht hn;have hi:=drop_cons ht;have hPn:P<h.next:=hp.2.1
 obtain ⟨H2,gq,p2,r2⟩:=nxt91 p1 a1 (by omega)
 obtain ⟨h3,v,i2,out2,c1,q,g3,r3⟩:=ih H2 p2;have q2:=keepT (cc:=cx.at 91) cb138 rfl q;obtain ⟨w1,w2,w3,w4⟩:=why_is g3;have ew:=eqI_false hw;refine ⟨h3,0,i2,out2,c1,?_,g3,(r1.trans r2).trans r3⟩;clear q;rw [call_run (cx:=cx) rfl Tryz.func91 ok91 nd91 rfl (lbe rfl) rfl rfl];simp -implicitDefEqProofs (disch:=omega) [-fieldAddrD,-nilCheckD,-load_ptr,-load_eptr,-storeD,-getElem?_pos,fq,P0.tkl,P0.tlw,md,eqI,gq,q2,w1,w2,w3,w4,ew,hw,b1,b2,b4,eqI_false b1,eqI_false b2,eqI_false b4,b5,bLen,show eqS ⟨#[108,101,110]⟩ ⟨#[116,114,117,101]⟩=false from by decide,show eqS ⟨#[108,101,110]⟩ ⟨#[102,97,108,115,101]⟩=false from by decide,P0.deq']
theorem s91_len (hp:RX n h P L all i d out p 0)(hal:all.length≤256)(ht:all.drop i=t::ts)(hn:negA (sg (t::ts))=none)(b1:t.kind≠1)(b2:t.kind≠2)(b4:t.kind≠4)(b5:t.text=bLen)(hlen:out2.length≤1000000)
  (ih:∀ h,RX n h P L all (i+1) d out p 0→RRes 138 [] n h P L all d (.ok v ts2 out2)):RRes 91 [] n h P L all d (.ok out2.length ts2 (out2 ++ [nod 5 v 0 0 t.pos])):=by
 obtain ⟨A,H1,fq,p1,r1,a1⟩:=pre91 hp hal ht hn;have hi:=drop_cons ht;have hPn:P<h.next:=hp.2.1
 obtain ⟨H2,gq,p2,r2⟩:=nxt91 p1 a1 (by omega)
 obtain ⟨h3,i2,p3,c1,c2,q,g3,r3⟩:=ih H2 p2;have q2:=keepT (cc:=cx.at 91) cb138 rfl q;obtain ⟨w1,w2,w3,w4⟩:=why_is g3;obtain ⟨h4,f9,g4,r4⟩:=r95 (c:=91) g3 hlen (nod 5 v 0 0 t.pos) rfl;simp only [nod,prP,noText] at f9;refine ⟨h4,i2,p3,c1,c2,?_,g4,((r1.trans r2).trans r3).trans r4⟩;clear q;rw [call_run (cx:=cx) rfl Tryz.func91 ok91 nd91 rfl (lbe rfl) rfl rfl];simp -implicitDefEqProofs (disch:=omega) [-fieldAddrD,-nilCheckD,-load_ptr,-load_eptr,-storeD,-getElem?_pos,fq,P0.tkl,P0.tlw,md,eqI,gq,q2,w1,w2,w3,w4,f9,b1,b2,b4,eqI_false b1,eqI_false b2,eqI_false b4,b5,bLen,show eqS ⟨#[108,101,110]⟩ ⟨#[116,114,117,101]⟩=false from by decide,show eqS ⟨#[108,101,110]⟩ ⟨#[102,97,108,115,101]⟩=false from by decide,P0.deq']
theorem s91_leaf {q:PT}(hp:RX n h P L all i d out p 0)(hal:all.length≤256)(ht:all.drop i=t::ts)(hn:negA (sg (t::ts))=none)(hlen:out.length≤1000000)(hl:leafA t=some q):RRes 91 [] n h P L all d (.ok out.length ts (out ++ [q])):=by
 unfold leafA at hl;by_cases a1:t.kind=1
 · rw [if_pos a1] at hl; cases hl; exact s91_num hp hal ht hn a1 hlen
 rw [if_neg a1] at hl;by_cases a2:t.kind=2
 · rw [if_pos a2] at hl; cases hl; exact s91_text hp hal ht hn a2 hlen
 rw [if_neg a2] at hl;by_cases a3:t.kind=4
 · rw [if_pos a3] at hl; cases hl
 rw [if_neg a3] at hl;by_cases a4:t.text=bTrue
 · rw [if_pos a4] at hl; cases hl; exact s91_true hp hal ht hn a1 a2 a3 a4 hlen
 rw [if_neg a4] at hl;by_cases a5:t.text=bFalse
 · rw [if_pos a5] at hl; cases hl; exact s91_false hp hal ht hn a1 a2 a3 a5 hlen
 rw [if_neg a5] at hl;by_cases a6:t.text=bLen
 · rw [if_pos a6] at hl; cases hl
 rw [if_neg a6] at hl;cases hl;exact s91_var hp hal ht hn a1 a2 a3 (P0.deq a4) (P0.deq a5) (P0.deq a6) hlen
end
end Go.Proofs.YtaldobgfbkllfaaGreatDoor

namespace Go.Proofs.YtaldobgfbkllfaaGreatDoor
open Vai
variable [GlP]
set_option maxHeartbeats 0
set_option maxRecDepth 100000
section
variable {n:Nat}{h:H}{P:Nat}{L:Int}{all:List Tk}{i d:Nat}{out:List PT}{p w:Int}{M m a b c:Nat}{r:PR}{t t3:Tk}{ts ts2 ts3 ts4:List Tk}{out2 out3 out4:List PT}{p' w':Int}
theorem l50_err {v:Int}(hw:w≠0)(hp:RX n h P L all i d out p w){st:St}{R:CR}(hLp:loopω (LB cx prim 50 Tryz.f50 0) st=R)(hst:st.n=117∧st.h=h∧st.env 0 = .ptr P 0 0 1∧st.env 9 = .t (.int .i64 v)) :
  ∃ nn env',R=some (.exit 0,⟨nn,env',h⟩)∧nn=117∧env' 9 = .t (.int .i64 v):=by
 obtain ⟨nn,env,h'⟩:=st;obtain ⟨rfl,rfl,e0,e9⟩:=hst;simp only at e0 e9 hp;obtain ⟨x1,x2,x3,x4⟩:=why_is hp;have key:∃ env',LB cx prim 50 Tryz.f50 0 ⟨117,env,h'⟩=some (.exit 0,⟨117,env',h'⟩)∧env' 9 = .t (.int .i64 v):=by
  rw [LB_run nd50 rfl];simp -implicitDefEqProofs (disch:=omega) [-fieldAddrD,-nilCheckD,-load_ptr,-storeD,e0,e9,x1,x2,x3,x4,eqI,hw]
 obtain ⟨env',q1,q2⟩:=key;exact ⟨117,env',by rw [←hLp,loop_step,q1]; rfl,rfl,q2⟩
theorem s50_lv_er (hM:M=m+1)(hM6:M≤5)(hw:w'≠0)(hp:RX n h P L all i d out p 0)(ih:RRes 50 [.t (.int .i64 m)] n h P L all d (.er p' w')):RRes 50 [.t (.int .i64 M)] n h P L all d (.er p' w'):=by
 obtain ⟨w1,w2,w3,w4⟩:=why_is hp;obtain ⟨h1,v,i2,out2,b1,q,g1,r1⟩:=ih;have q2:=keepT (cc:=cx.at 50) cb50 rfl q;obtain ⟨x1,x2,x3,x4⟩:=why_is g1;have ew:=eqI_false hw;have em:(M:Int)-1=m:=by omega
 have hm6:m≤6:=by omega
 have c0:¬ ((M:Int)=0):=by omega
 have c6:¬ ((M:Int)=6):=by omega
 have c0':¬ (M=0):=by omega
 refine ⟨h1,v,i2,out2,b1,?_,g1,r1⟩;clear q;rw [call_run (cx:=cx) rfl Tryz.func50 ok50 nd50 rfl (lbe rfl) rfl rfl];simp -implicitDefEqProofs (disch:=omega) [-fieldAddrD,-nilCheckD,-load_ptr,-storeD,w1,w2,w3,w4,eqI,em,q2,c0,c0',c6];generalize hLp:loopω (LB cx prim 50 Tryz.f50 0) _=R;obtain ⟨nn,env',rfl,rfl,k1⟩:=l50_err (v:=v) hw g1 hLp ⟨rfl,rfl,by simp,by simp⟩
 simp -implicitDefEqProofs (disch:=omega) [k1]
theorem s50_lv_ok (hM:M=m+1)(hM6:M≤5)(hp:RX n h P L all i d out p 0)(ih:RRes 50 [.t (.int .i64 m)] n h P L all d (.ok a ts2 out2))
  (ih2:∀ h st i2 p2,i2≤all.length→all.drop i2=ts2→RX n h P L all i2 d out2 p2 0→At50 M P a h st→Res50 n h P L all d st r):RRes 50 [.t (.int .i64 M)] n h P L all d r:=by
 obtain ⟨w1,w2,w3,w4⟩:=why_is hp;obtain ⟨h1,i2,p2,b1,b2,q,g1,r1⟩:=ih;have q2:=keepT (cc:=cx.at 50) cb50 rfl q;have em:(M:Int)-1=m:=by omega
 have hm6:m≤6:=by omega
 have c0:¬ ((M:Int)=0):=by omega
 have c6:¬ ((M:Int)=6):=by omega
 have c0':¬ (M=0):=by omega
 have lem:=fun st=>ih2 h1 st i2 p2 b1 b2 g1
 clear q ih2;unfold At50 at lem
 cases r with
 | ok v ts4 out4 =>
  suffices hh:∀ st R,loopω (LB cx prim 50 Tryz.f50 0) st=R→(st.n=117∧st.h=h1∧st.env 0 = .ptr P 0 0 1∧st.env 1 = .t (.int .i64 M)∧st.env 9 = .t (.int .i64 a))→∃ nn env' h3 i3 p3,R=some (.exit 0,⟨nn,env',h3⟩)∧nn=117∧env' 9 = .t (.int .i64 v)∧i3≤all.length∧all.drop i3=ts4∧RX n h3 P L all i3 d out4 p3 0∧FrR n h1 h3 by
   obtain ⟨G,hG⟩:∃ G:H→Prop,G=fun h3=>∃ i3 p3,i3≤all.length∧all.drop i3=ts4∧RX n h3 P L all i3 d out4 p3 0∧FrR n h1 h3:=⟨_,rfl⟩
   have key:∃ h3,call cx prim 50 [.ptr P 0 0 1,.t (.int .i64 M)] h=some (.t (.int .i64 v),h3)∧G h3:=by
    rw [call_run (cx:=cx) rfl Tryz.func50 ok50 nd50 rfl (lbe rfl) rfl rfl];simp -implicitDefEqProofs (disch:=omega) [-fieldAddrD,-nilCheckD,-load_ptr,-storeD,w1,w2,w3,w4,eqI,em,q2,c0,c0',c6];generalize hLp:loopω (LB cx prim 50 Tryz.f50 0) _=R;obtain ⟨nn,env',h3,i3,p3,rfl,rfl,k1,k2,k3,k4,k5⟩:=hh _ _ hLp ⟨rfl,rfl,by simp,by simp,by simp⟩
    refine ⟨h3,?_,by rw [hG]; exact ⟨i3,p3,k2,k3,k4,k5⟩⟩
    simp -implicitDefEqProofs (disch:=omega) [k1]
   obtain ⟨h3,q3,g3⟩:=key;rw [hG] at g3;obtain ⟨i3,p3,k2,k3,k4,k5⟩:=g3;exact ⟨h3,i3,p3,k2,k3,q3,k4,r1.trans k5⟩
  intro st R e hst;obtain ⟨⟨nn,env',h3⟩,i3,p3,k0,k1,k2,k3,k4,k5,k6⟩:=lem st hst;exact ⟨nn,env',h3,i3,p3,by rw [←e,k0],k1,k2,k3,k4,k5,k6⟩
 | er p' w' =>
  suffices hh:∀ st R,loopω (LB cx prim 50 Tryz.f50 0) st=R→(st.n=117∧st.h=h1∧st.env 0 = .ptr P 0 0 1∧st.env 1 = .t (.int .i64 M)∧st.env 9 = .t (.int .i64 a))→∃ nn env' h3 i3 out3,R=some (.ret,⟨nn,env',h3⟩)∧nn=117∧env' 4 = .t (.int .i64 0)∧i3≤1000∧RX n h3 P L all i3 d out3 p' w'∧FrR n h1 h3 by
   obtain ⟨G,hG⟩:∃ G:H→Prop,G=fun h3=>∃ i3 out3,i3≤1000∧RX n h3 P L all i3 d out3 p' w'∧FrR n h1 h3:=⟨_,rfl⟩
   have key:∃ h3,call cx prim 50 [.ptr P 0 0 1,.t (.int .i64 M)] h=some (.t (.int .i64 0),h3)∧G h3:=by
    rw [call_run (cx:=cx) rfl Tryz.func50 ok50 nd50 rfl (lbe rfl) rfl rfl];simp -implicitDefEqProofs (disch:=omega) [-fieldAddrD,-nilCheckD,-load_ptr,-storeD,w1,w2,w3,w4,eqI,em,q2,c0,c0',c6];generalize hLp:loopω (LB cx prim 50 Tryz.f50 0) _=R;obtain ⟨nn,env',h3,i3,out3,rfl,rfl,k1,k2,k4,k5⟩:=hh _ _ hLp ⟨rfl,rfl,by simp,by simp,by simp⟩
    refine ⟨h3,?_,by rw [hG]; exact ⟨i3,out3,k2,k4,k5⟩⟩
    simp -implicitDefEqProofs (disch:=omega) [k1]
   obtain ⟨h3,q3,g3⟩:=key;rw [hG] at g3;obtain ⟨i3,out3,k2,k4,k5⟩:=g3;exact ⟨h3,0,i3,out3,k2,q3,k4,r1.trans k5⟩
  intro st R e hst;obtain ⟨⟨nn,env',h3⟩,i3,out3,k0,k1,k2,k3,k4,k5⟩:=lem st hst;exact ⟨nn,env',h3,i3,out3,by rw [←e,k0],k1,k2,k3,k4,k5⟩
theorem s50_6_er (hw:w'≠0)(hp:RX n h P L all i d out p 0)(ih:RRes 50 [.t (.int .i64 5)] n h P L all d (.er p' w')):RRes 50 [.t (.int .i64 6)] n h P L all d (.er p' w'):=by
 obtain ⟨w1,w2,w3,w4⟩:=why_is hp;obtain ⟨h1,v,i2,out2,b1,q,g1,r1⟩:=ih;have q2:=keepT (cc:=cx.at 50) cb50 rfl q;obtain ⟨x1,x2,x3,x4⟩:=why_is g1;have ew:=eqI_false hw;refine ⟨h1,v,i2,out2,b1,?_,g1,r1⟩;clear q;rw [call_run (cx:=cx) rfl Tryz.func50 ok50 nd50 rfl (lbe rfl) rfl rfl];simp -implicitDefEqProofs (disch:=omega) [-fieldAddrD,-nilCheckD,-load_ptr,-storeD,w1,w2,w3,w4,eqI,q2,x1,x2,x3,x4,hw]
theorem s50_6_no (hal:all.length≤256)(hp:RX n h P L all i d out p 0)(ih:RRes 50 [.t (.int .i64 5)] n h P L all d (.ok a ts2 out2))(hy:sg ts2≠bAsk):RRes 50 [.t (.int .i64 6)] n h P L all d (.ok a ts2 out2):=by
 obtain ⟨w1,w2,w3,w4⟩:=why_is hp;obtain ⟨h1,i2,p2,b1,b2,q,g1,r1⟩:=ih;have q2:=keepT (cc:=cx.at 50) cb50 rfl q;obtain ⟨x1,x2,x3,x4⟩:=why_is g1;have f:=r92 (c:=50) (y:=bAsk) (by decide) g1 (by omega) hal rfl
 rw [b2] at f;simp only [hy,decide_false] at f;simp only [bAsk] at f;refine ⟨h1,i2,p2,b1,b2,?_,g1,r1⟩;clear q;rw [call_run (cx:=cx) rfl Tryz.func50 ok50 nd50 rfl (lbe rfl) rfl rfl];simp -implicitDefEqProofs (disch:=omega) [-fieldAddrD,-nilCheckD,-load_ptr,-storeD,w1,w2,w3,w4,eqI,q2,x1,x2,x3,x4,f]
theorem s50_6_deep (hal:all.length≤256)(hp:RX n h P L all i d out p 0)(ih:RRes 50 [.t (.int .i64 5)] n h P L all d (.ok a (t::ts2) out2))(hy:sg (t::ts2)=bAsk)(hd:16≤d)(hd2:d≤1000):RRes 50 [.t (.int .i64 6)] n h P L all d (.er t.pos 134):=by
 obtain ⟨w1,w2,w3,w4⟩:=why_is hp;obtain ⟨h1,i2,p2,b1,b2,q,g1,r1⟩:=ih;have hi2:=(drop_cons b2).2;have q2:=keepT (cc:=cx.at 50) cb50 rfl q;obtain ⟨x1,x2,x3,x4⟩:=why_is g1;have f:=r92 (c:=50) (y:=bAsk) (by decide) g1 (by omega) hal rfl
 have f0:=r52 (c:=50) g1 (by omega) hal rfl
 rw [b2] at f f0;simp only [hy,decide_true] at f;simp only [bAsk] at f;simp only [plc] at f0;obtain ⟨h2,f2,g2,r2⟩:=r93_deep (c:=50) g1 (by omega) hal hd hd2 rfl
 rw [b2] at g2;have f3:=r50_err (c:=50) (m:=6) g2 (by omega) rfl
 have f4:=r94_err (c:=50) (y:=bColon) g2 (by omega) rfl
 simp only [bColon] at f4;obtain ⟨h9,g3,r3,j1,j2,j3,j4⟩:=deep_back g2;obtain ⟨y1,y2,y3,y4⟩:=why_is g3;have e1:(d:Int)+1-1=d:=by omega
 refine ⟨h9,0,i2+1,out2,by omega,?_,g3,(r1.trans r2).trans r3⟩
 clear q;rw [call_run (cx:=cx) rfl Tryz.func50 ok50 nd50 rfl (lbe rfl) rfl rfl];simp -implicitDefEqProofs (disch:=omega) [-fieldAddrD,-nilCheckD,-load_ptr,-storeD,w1,w2,w3,w4,eqI,q2,x1,x2,x3,x4,f,f0,f2,f3,f4,j1,j2,j3,j4,e1,y1,y2,y3,y4]
theorem s50_6_b (hw:w'≠0)(hal:all.length≤256)(hp:RX n h P L all i d out p 0)(ih:RRes 50 [.t (.int .i64 5)] n h P L all d (.ok a (t::ts2) out2))(hy:sg (t::ts2)=bAsk)(hd:d<16)
  (ih2:∀ h i2 p2,i2≤all.length→all.drop i2=ts2→RX n h P L all i2 (d+1) out2 p2 0→RRes 50 [.t (.int .i64 6)] n h P L all (d+1) (.er p' w')):RRes 50 [.t (.int .i64 6)] n h P L all d (.er p' w'):=by
 obtain ⟨w1,w2,w3,w4⟩:=why_is hp;obtain ⟨h1,i2,p2,b1,b2,q,g1,r1⟩:=ih;have hi2:=drop_cons b2;have q2:=keepT (cc:=cx.at 50) cb50 rfl q;obtain ⟨x1,x2,x3,x4⟩:=why_is g1;have f:=r92 (c:=50) (y:=bAsk) (by decide) g1 (by omega) hal rfl
 have f0:=r52 (c:=50) g1 (by omega) hal rfl
 rw [b2] at f f0;simp only [hy,decide_true] at f;simp only [bAsk] at f;simp only [plc] at f0;obtain ⟨h2,f2,g2,r2⟩:=r93 (c:=50) g1 (by omega) hal hd rfl
 obtain ⟨h3,v3,i3,out3,b3,q3,g3,r3⟩:=ih2 h2 (i2+1) p2 hi2.2 hi2.1 g2;have q4:=keepT (cc:=cx.at 50) cb50 rfl q3;have f3:=r50_err (c:=50) (m:=6) g3 hw rfl;have f4:=r94_err (c:=50) (y:=bColon) g3 hw rfl;simp only [bColon] at f4;obtain ⟨h9,g4,r4,j1,j2,j3,j4⟩:=deep_back g3;obtain ⟨y1,y2,y3,y4⟩:=why_is g4;have e1:(d:Int)+1-1=d:=by omega
 refine ⟨h9,0,i3,out3,b3,?_,g4,((r1.trans r2).trans r3).trans r4⟩;clear q q3 ih2;rw [call_run (cx:=cx) rfl Tryz.func50 ok50 nd50 rfl (lbe rfl) rfl rfl];simp -implicitDefEqProofs (disch:=omega) [-fieldAddrD,-nilCheckD,-load_ptr,-storeD,w1,w2,w3,w4,eqI,q2,x1,x2,x3,x4,f,f0,f2,q4,f3,f4,j1,j2,j3,j4,e1,y1,y2,y3,y4,hw]
theorem s50_6_cl (hal:all.length≤256)(hp:RX n h P L all i d out p 0)(ih:RRes 50 [.t (.int .i64 5)] n h P L all d (.ok a (t::ts2) out2))(hy:sg (t::ts2)=bAsk)(hd:d<16)
  (ih2:∀ h i2 p2,i2≤all.length→all.drop i2=ts2→RX n h P L all i2 (d+1) out2 p2 0→RRes 50 [.t (.int .i64 6)] n h P L all (d+1) (.ok b ts3 out3)) (hc:sg ts3≠bColon):RRes 50 [.t (.int .i64 6)] n h P L all d (.er (plc L ts3) 131):=by
 obtain ⟨w1,w2,w3,w4⟩:=why_is hp;obtain ⟨h1,i2,p2,b1,b2,q,g1,r1⟩:=ih;have hi2:=drop_cons b2;have q2:=keepT (cc:=cx.at 50) cb50 rfl q;obtain ⟨x1,x2,x3,x4⟩:=why_is g1;have f:=r92 (c:=50) (y:=bAsk) (by decide) g1 (by omega) hal rfl
 have f0:=r52 (c:=50) g1 (by omega) hal rfl
 rw [b2] at f f0;simp only [hy,decide_true] at f;simp only [bAsk] at f;simp only [plc] at f0;obtain ⟨h2,f2,g2,r2⟩:=r93 (c:=50) g1 (by omega) hal hd rfl
 obtain ⟨h3,i3,p3,b3,rfl,q3,g3,r3⟩:=ih2 h2 (i2+1) p2 hi2.2 hi2.1 g2;have q4:=keepT (cc:=cx.at 50) cb50 rfl q3;obtain ⟨h4,f4,g4,r4⟩:=r94_no (c:=50) (y:=bColon) (by decide) g3 (by omega) hal hc rfl
 simp only [bColon] at f4;have f3:=r50_err (c:=50) (m:=6) g4 (by omega) rfl
 obtain ⟨h9,g5,r5,j1,j2,j3,j4⟩:=deep_back g4;obtain ⟨y1,y2,y3,y4⟩:=why_is g5;have e1:(d:Int)+1-1=d:=by omega
 refine ⟨h9,0,i3,out3,by omega,?_,g5,(((r1.trans r2).trans r3).trans r4).trans r5⟩
 clear q q3 ih2;rw [call_run (cx:=cx) rfl Tryz.func50 ok50 nd50 rfl (lbe rfl) rfl rfl];simp -implicitDefEqProofs (disch:=omega) [-fieldAddrD,-nilCheckD,-load_ptr,-storeD,w1,w2,w3,w4,eqI,q2,x1,x2,x3,x4,f,f0,f2,q4,f3,f4,j1,j2,j3,j4,e1,y1,y2,y3,y4]
theorem s50_6_c (hw:w'≠0)(hal:all.length≤256)(hp:RX n h P L all i d out p 0)(ih:RRes 50 [.t (.int .i64 5)] n h P L all d (.ok a (t::ts2) out2))(hy:sg (t::ts2)=bAsk)(hd:d<16)
  (ih2:∀ h i2 p2,i2≤all.length→all.drop i2=ts2→RX n h P L all i2 (d+1) out2 p2 0→RRes 50 [.t (.int .i64 6)] n h P L all (d+1) (.ok b (t3::ts3) out3)) (hc:sg (t3::ts3)=bColon)
  (ih3:∀ h i2 p2,i2≤all.length→all.drop i2=ts3→RX n h P L all i2 (d+1) out3 p2 0→RRes 50 [.t (.int .i64 6)] n h P L all (d+1) (.er p' w')):RRes 50 [.t (.int .i64 6)] n h P L all d (.er p' w'):=by
 obtain ⟨w1,w2,w3,w4⟩:=why_is hp;obtain ⟨h1,i2,p2,b1,b2,q,g1,r1⟩:=ih;have hi2:=drop_cons b2;have q2:=keepT (cc:=cx.at 50) cb50 rfl q;obtain ⟨x1,x2,x3,x4⟩:=why_is g1;have f:=r92 (c:=50) (y:=bAsk) (by decide) g1 (by omega) hal rfl
 have f0:=r52 (c:=50) g1 (by omega) hal rfl
 rw [b2] at f f0;simp only [hy,decide_true] at f;simp only [bAsk] at f;simp only [plc] at f0;obtain ⟨h2,f2,g2,r2⟩:=r93 (c:=50) g1 (by omega) hal hd rfl
 obtain ⟨h3,i3,p3,b3,b4,q3,g3,r3⟩:=ih2 h2 (i2+1) p2 hi2.2 hi2.1 g2;have hi3:=drop_cons b4;have q4:=keepT (cc:=cx.at 50) cb50 rfl q3;obtain ⟨h4,f4,g4,r4⟩:=r94 (c:=50) (y:=bColon) (by decide) g3 (by omega) hal (by rw [b4]; exact hc) rfl
 simp only [bColon] at f4;obtain ⟨h5,v5,i5,out5,b5,q5,g5,r5⟩:=ih3 h4 (i3+1) p3 hi3.2 hi3.1 g4;have q6:=keepT (cc:=cx.at 50) cb50 rfl q5;obtain ⟨h9,g6,r6,j1,j2,j3,j4⟩:=deep_back g5;obtain ⟨y1,y2,y3,y4⟩:=why_is g6;have e1:(d:Int)+1-1=d:=by omega
 refine ⟨h9,0,i5,out5,by omega,?_,g6,((((r1.trans r2).trans r3).trans r4).trans r5).trans r6⟩
 clear q q3 q5 ih2 ih3;rw [call_run (cx:=cx) rfl Tryz.func50 ok50 nd50 rfl (lbe rfl) rfl rfl];simp -implicitDefEqProofs (disch:=omega) [-fieldAddrD,-nilCheckD,-load_ptr,-storeD,w1,w2,w3,w4,eqI,q2,x1,x2,x3,x4,f,f0,f2,q4,q6,f4,j1,j2,j3,j4,e1,y1,y2,y3,y4,hw]
theorem s50_6_ok (hal:all.length≤256)(hp:RX n h P L all i d out p 0)(ih:RRes 50 [.t (.int .i64 5)] n h P L all d (.ok a (t::ts2) out2))(hy:sg (t::ts2)=bAsk)(hd:d<16)(hlen:out4.length≤1000000)
  (ih2:∀ h i2 p2,i2≤all.length→all.drop i2=ts2→RX n h P L all i2 (d+1) out2 p2 0→RRes 50 [.t (.int .i64 6)] n h P L all (d+1) (.ok b (t3::ts3) out3)) (hc:sg (t3::ts3)=bColon)
  (ih3:∀ h i2 p2,i2≤all.length→all.drop i2=ts3→RX n h P L all i2 (d+1) out3 p2 0→RRes 50 [.t (.int .i64 6)] n h P L all (d+1) (.ok c ts4 out4)) :
  RRes 50 [.t (.int .i64 6)] n h P L all d (.ok out4.length ts4 (out4 ++ [nod 19 a b c t.pos])):=by
 obtain ⟨w1,w2,w3,w4⟩:=why_is hp;obtain ⟨h1,i2,p2,b1,b2,q,g1,r1⟩:=ih;have hi2:=drop_cons b2;have q2:=keepT (cc:=cx.at 50) cb50 rfl q;obtain ⟨x1,x2,x3,x4⟩:=why_is g1;have f:=r92 (c:=50) (y:=bAsk) (by decide) g1 (by omega) hal rfl
 have f0:=r52 (c:=50) g1 (by omega) hal rfl
 rw [b2] at f f0;simp only [hy,decide_true] at f;simp only [bAsk] at f;simp only [plc] at f0;obtain ⟨h2,f2,g2,r2⟩:=r93 (c:=50) g1 (by omega) hal hd rfl
 obtain ⟨h3,i3,p3,b3,b4,q3,g3,r3⟩:=ih2 h2 (i2+1) p2 hi2.2 hi2.1 g2;have hi3:=drop_cons b4;have q4:=keepT (cc:=cx.at 50) cb50 rfl q3;obtain ⟨h4,f4,g4,r4⟩:=r94 (c:=50) (y:=bColon) (by decide) g3 (by omega) hal (by rw [b4]; exact hc) rfl
 simp only [bColon] at f4;obtain ⟨h5,i5,p5,b5,b6,q5,g5,r5⟩:=ih3 h4 (i3+1) p3 hi3.2 hi3.1 g4;have q6:=keepT (cc:=cx.at 50) cb50 rfl q5;obtain ⟨h9,g6,r6,j1,j2,j3,j4⟩:=deep_back g5;obtain ⟨y1,y2,y3,y4⟩:=why_is g6;obtain ⟨h7,f9,g7,r7⟩:=r95 (c:=50) g6 hlen (nod 19 a b c t.pos) rfl;simp only [nod,prP,noText] at f9;have e1:(d:Int)+1-1=d:=by omega
 refine ⟨h7,i5,p5,b5,b6,?_,g7,(((((r1.trans r2).trans r3).trans r4).trans r5).trans r6).trans r7⟩;clear q q3 q5 ih2 ih3;rw [call_run (cx:=cx) rfl Tryz.func50 ok50 nd50 rfl (lbe rfl) rfl rfl];simp -implicitDefEqProofs (disch:=omega) [-fieldAddrD,-nilCheckD,-load_ptr,-storeD,w1,w2,w3,w4,eqI,q2,x1,x2,x3,x4,f,f0,f2,q4,q6,f4,j1,j2,j3,j4,e1,y1,y2,y3,y4,f9]
end
def SaidR (n:Nat)(h:H)(P:Nat)(L:Int)(all:List Tk)(d:Nat)(r:PR):Mo→Prop
 | .lv l=>RRes 50 [.t (.int .i64 l)] n h P L all d r
 | .br=>RRes 138 [] n h P L all d r
 | .ch l a k=>(l=3→k=0)→l≤5→∀ st,At50 l P a h st→Res50 n h P L all d st r
theorem why_ne {p w:Int}(h:WhyR (.er p w)):w≠0:=by rcases h with h|h<;>omega
theorem rd_ref {L:Int}{all:List Tk}(hal:all.length≤256)(h4:Sgn4 all){mo:Mo}{ts:List Tk}{d:Nat}{out:List PT}{r:PR}(hr:Rd L mo ts d out r) :
  ∀ (n:Nat) (h:H) (P i:Nat) (p:Int),RX n h P L all i d out p 0→i≤all.length→all.drop i=ts→d≤16→out.length+ts.length≤1000→SaidR n h P L all d r mo:=by
 induction hr with
 | un_deep h1 h2=>exact fun n h P i p hp hi ht hd ho=>s50_0 hp (s91_deep hp hal ht h1 h2 (by omega))
 | un_er h1 h2 h3 ih =>
  exact fun n h P i p hp hi ht hd ho=>s50_0 hp (s91_er (why_ne (rd_why h3)) hp hal ht h1 h2 fun h' hp'=>ih n h' P (i+1) p hp' (drop_cons ht).2 (drop_cons ht).1 (by omega) (by simp at ho; omega))
 | un_ok h1 h2 h3 ih =>
  intro n h P i p hp hi ht hd ho;have hs:=rd_size h3;simp only [Size,List.length_cons] at hs ho;exact s50_0 hp (s91_ok hp hal ht h1 h2 (by omega) fun h' hp'=>ih n h' P (i+1) p hp' (drop_cons ht).2 (drop_cons ht).1 (by omega) (by omega))
 | un_nil=>exact fun n h P i p hp hi ht hd ho=>s50_0 hp (s91_nil hp hi hal ht)
 | un_leaf h1 h2=>exact fun n h P i p hp hi ht hd ho=>s50_0 hp (s91_leaf hp hal ht h1 (by simp at ho; omega) h2)
 | un_br h1 h2 h3 ih=>exact fun n h P i p hp hi ht hd ho=>s50_0 hp (s91_br hp hal ht h1 h2 fun h' hp'=>ih n h' P i p hp' hi ht hd ho)
 | len_er h1 h2 h3 h5 h6 ih =>
  exact fun n h P i p hp hi ht hd ho=>s50_0 hp (s91_ler (why_ne (rd_why h6)) hp hal ht (P0.len_neg h5) h1 h2 h3 h5 fun h' hp'=>ih n h' P (i+1) p hp' (drop_cons ht).2 (drop_cons ht).1 hd (by simp at ho; omega))
 | len_ok h1 h2 h3 h5 h6 ih =>
  intro n h P i p hp hi ht hd ho;have hs:=rd_size h6;simp only [Size,List.length_cons] at hs ho;exact s50_0 hp (s91_len hp hal ht (P0.len_neg h5) h1 h2 h3 h5 (by omega) fun h' hp'=>ih n h' P (i+1) p hp' (drop_cons ht).2 (drop_cons ht).1 hd (by omega))
 | br_no h1 =>
  intro n h P i p hp hi ht hd ho;subst ht;exact s138_no hp hi hal h1
 | br_deep h1 h2=>exact fun n h P i p hp hi ht hd ho=>s138_deep hp hal ht h1 h2 (by omega)
 | br_er h1 h2 h3 ih =>
  exact fun n h P i p hp hi ht hd ho=>s138_er (why_ne (rd_why h3)) hp hal ht h1 h2 fun h' hp'=>ih n h' P (i+1) p hp' (drop_cons ht).2 (drop_cons ht).1 (by omega) (by simp at ho; omega)
 | br_cl h1 h2 h3 h5 ih =>
  exact fun n h P i p hp hi ht hd ho=>s138_cl hp hal ht h1 h2 h5 fun h' hp'=>ih n h' P (i+1) p hp' (drop_cons ht).2 (drop_cons ht).1 (by omega) (by simp at ho; omega)
 | br_ok h1 h2 h3 h5 ih =>
  exact fun n h P i p hp hi ht hd ho=>s138_ok hp hal ht h1 h2 h5 fun h' hp'=>ih n h' P (i+1) p hp' (drop_cons ht).2 (drop_cons ht).1 (by omega) (by simp at ho; omega)
 | lv_er h1 h2 ih=>exact fun n h P i p hp hi ht hd ho=>s50_lv_er rfl (by omega) (why_ne (rd_why h2)) hp (ih n h P i p hp hi ht hd ho)
 | lv_ok h1 h2 h3 ih1 ih2 =>
  intro n h P i p hp hi ht hd ho;have hs:=rd_size h2;simp only [Size] at hs;exact s50_lv_ok rfl (by omega) hp (ih1 n h P i p hp hi ht hd ho) fun h' st i2 p2 a1 a2 hp' hat=>ih2 n h' P i2 p2 hp' a1 a2 hd (by omega) (fun _=>rfl) (by omega) st hat
 | ch_end h1 =>
  intro n h P i p hp hi ht hd ho hn hm st hat;subst ht;refine l50_end hp hi hal h4 ?_ hat;rcases h1 with ⟨rfl,h1⟩|h1
  · have:=hn rfl; omega
  · exact h1
 | ch_er h1 h2 h3 ih =>
  intro n h P i p hp hi ht hd ho hn hm st hat;exact l50_er (why_ne (rd_why h3)) rfl (by omega) hp hal h4 ht h2 (fun h' hp'=>ih n h' P (i+1) p hp' (drop_cons ht).2 (drop_cons ht).1 hd (by simp at ho; omega)) hat
 | ch_ok h1 h2 h3 h5 ih1 ih2 =>
  rename_i m t ts d out i0 ts2 out2 r a k b;intro n h P i p hp hi ht hd ho hn hm st hat;have hs:=rd_size h3;simp only [Size,List.length_cons] at hs ho;by_cases hm2:m=2
  · subst hm2
    have k1:=l50_brk (M:=3) (m:=2) rfl (by omega) rfl hp hal h4 ht h2 (by omega) (fun h' hp'=>ih1 n h' P (i+1) p hp' (drop_cons ht).2 (drop_cons ht).1 hd (by omega)) hat
    cases h5 with
    | ch_end _=>exact k1
    | ch_er g1=>exact absurd ⟨rfl,by omega⟩ g1
    | ch_ok g1=>exact absurd ⟨rfl,by omega⟩ g1
  · exact l50_ok rfl (by omega) (by omega) hp hal h4 ht h2 (by omega) (fun h' hp'=>ih1 n h' P (i+1) p hp' (drop_cons ht).2 (drop_cons ht).1 hd (by omega))
     (fun h' st' i2 p2 a1 a2 hp' hat'=>ih2 n h' P i2 p2 hp' a1 a2 hd (by simp; omega) (fun e=>absurd (by omega) hm2) hm st' hat') hat
 | fo_er h1 ih=>exact fun n h P i p hp hi ht hd ho=>s50_6_er (why_ne (rd_why h1)) hp (ih n h P i p hp hi ht hd ho)
 | fo_no h1 h2 ih=>exact fun n h P i p hp hi ht hd ho=>s50_6_no hal hp (ih n h P i p hp hi ht hd ho) h2
 | fo_deep h1 h2 h3 ih=>exact fun n h P i p hp hi ht hd ho=>s50_6_deep hal hp (ih n h P i p hp hi ht hd ho) h2 h3 (by omega)
 | fo_b h1 h2 h3 h5 ih1 ih2 =>
  intro n h P i p hp hi ht hd ho;have hs:=rd_size h1;simp only [Size,List.length_cons] at hs;exact s50_6_b (why_ne (rd_why h5)) hal hp (ih1 n h P i p hp hi ht hd ho) h2 h3 fun h' i2 p2 a1 a2 hp'=>ih2 n h' P i2 p2 hp' a1 a2 (by omega) (by omega)
 | fo_cl h1 h2 h3 h5 h6 ih1 ih2 =>
  intro n h P i p hp hi ht hd ho;have hs:=rd_size h1;simp only [Size,List.length_cons] at hs;exact s50_6_cl hal hp (ih1 n h P i p hp hi ht hd ho) h2 h3 (fun h' i2 p2 a1 a2 hp'=>ih2 n h' P i2 p2 hp' a1 a2 (by omega) (by omega)) h6
 | fo_c h1 h2 h3 h5 h6 h7 ih1 ih2 ih3 =>
  intro n h P i p hp hi ht hd ho;have hs:=rd_size h1;have hs2:=rd_size h5;simp only [Size,List.length_cons] at hs hs2;exact s50_6_c (why_ne (rd_why h7)) hal hp (ih1 n h P i p hp hi ht hd ho) h2 h3 (fun h' i2 p2 a1 a2 hp'=>ih2 n h' P i2 p2 hp' a1 a2 (by omega) (by omega)) h6 fun h' i2 p2 a1 a2 hp'=>ih3 n h' P i2 p2 hp' a1 a2 (by omega) (by omega)
 | fo_ok h1 h2 h3 h5 h6 h7 ih1 ih2 ih3 =>
  intro n h P i p hp hi ht hd ho;have hs:=rd_size h1;have hs2:=rd_size h5;have hs3:=rd_size h7;simp only [Size,List.length_cons] at hs hs2 hs3;exact s50_6_ok hal hp (ih1 n h P i p hp hi ht hd ho) h2 h3 (by omega) (fun h' i2 p2 a1 a2 hp'=>ih2 n h' P i2 p2 hp' a1 a2 (by omega) (by omega)) h6 fun h' i2 p2 a1 a2 hp'=>ih3 n h' P i2 p2 hp' a1 a2 (by omega) (by omega)
end Go.Proofs.YtaldobgfbkllfaaGreatDoor
