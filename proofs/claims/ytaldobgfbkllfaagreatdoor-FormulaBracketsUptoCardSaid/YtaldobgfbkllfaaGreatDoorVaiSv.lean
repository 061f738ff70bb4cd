import Derived.Test.YtaldobgfbkllfaaGreatDoorVaiSo
import Derived.Test.YtaldobgfbkllfaaGreatDoorVaiSq
import Derived.Test.YtaldobgfbkllfaaGreatDoorVaiSr
import Derived.Test.YtaldobgfbkllfaaGreatDoorVaiSp
import Derived.Test.YtaldobgfbkllfaaGreatDoorVaiSk
set_option linter.unusedSimpArgs false
set_option linter.unusedVariables false
set_option linter.unusedSectionVars false
namespace Go.Proofs.YtaldobgfbkllfaaGreatDoor
open Vai P0
variable [Gl]
set_option maxHeartbeats 0
set_option maxRecDepth 100000
theorem k20 {c:FuncId}{h:H}(hm0:h.marks=[]){s:ByteArray}{y:T}{ds:List DV}{r:PR}(hs:s.size≤1000000000)(hy:Slice y (ds.map decT))(hlD:ds.length≤2000000)(hr:Rd s.size (.lv 6) (lexS s).1 0 [] r)(hm:md c 20 = .keep) :
   ∃ ps p w d h',ParseBy s ds r ps p w∧callD (cx.at c) (call cx prim) 20 [.t (.str s),.t y] h=some (.tup [d,.t (iv p),.t (iv w)],h') ∧
     ((ps=[]∧d = .t .nilSlice∧w≠0)∨(w=0∧0<ps.length∧∃ id,h.next≤id∧id<h'.next∧d = .row id 0 ps.length ps.length∧h'.objs id=some (.row 57 9 ((ps.map prP).map .t))∧h'.marks=[]∧∀ j,j<h.next→h'.objs j=h.objs j)):=by
 by_cases hw:(lexS s).2.2=0
 · rcases fau_why (rd_why hr) with ⟨h0,v,out,rfl⟩|h0
   · obtain ⟨d,p,w,h',q,k⟩:=s20_all hm0 hs hy hlD hw hr (smallP s v out hr)
     have hv:=(rd_wf hr (fun i x hx=>by simp at hx)).2.1
     rcases k with ⟨hg,rfl,rfl,id,k1,rfl,k3,k4,k5,k6⟩|⟨hb,rfl⟩
     · exact ⟨out,0,0,_,h',.inr ⟨hw,.inr ⟨v,out,rfl,.inl ⟨hg,rfl,rfl,rfl⟩⟩⟩,keepT cb20 hm q,.inr ⟨rfl,by omega,id,k4,k1,rfl,k3,k5,k6⟩⟩
     · refine ⟨[],p,w,_,h',.inr ⟨hw,.inr ⟨v,out,rfl,.inr ⟨hb,rfl⟩⟩⟩,keepT cb20 hm q,.inl ⟨rfl,rfl,?_⟩⟩
       obtain ⟨_,_,_,_,_,_,rfl⟩:=hb;split<;>decide
   · obtain ⟨h',q⟩:=s20_par (h:=h) hm0 (y:=y) hs hw hr h0
     exact ⟨[],_,_,_,h',.inr ⟨hw,.inl ⟨h0,rfl,rfl,rfl⟩⟩,keepT cb20 hm q,.inl ⟨rfl,rfl,h0⟩⟩
 · obtain ⟨h',q⟩:=s20_lex (h:=h) (y:=y) hs hw
   exact ⟨[],_,_,_,h',.inl ⟨hw,rfl,rfl,rfl⟩,keepT cb20 hm q,.inl ⟨rfl,rfl,hw⟩⟩
theorem lv57:leaves Tryz.prog 57=some [.int,.int,.int,.int,.int,.int,.str,.str,.int]:=by kernel_rfl
theorem s27 {ps:List PT}{x y:T}(hx:Slice x (ps.map prP))(hy:Slice y (ps.map prP))(hn:ps.length≤256):∃ h',call cx prim 27 [.t x,.t y,.t (.bool true)] .empty=some (.t (.bool true),h'):=by
 rw [call_run (cx:=cx) rfl Tryz.func27 ok27 nd27 rfl (lbe rfl) rfl rfl];have l1:=fun hh=>hx.len (P:=Tryz.prog) (t:=22) tk22 hh
 have l2:=fun hh=>hy.len (P:=Tryz.prog) (t:=22) tk22 hh
 rw [List.length_map] at l1 l2;simp -implicitDefEqProofs (disch:=omega) [l1,l2];generalize hLp:loopω (LB cx prim 27 Tryz.f27 0) _=L;obtain ⟨x',⟨nn,env,h2⟩,rfl,rfl,hq⟩:=loop_uses hLp ps.length
  (fun k st=>st.n=36∧st.env 0 = .t x∧st.env 1 = .t y∧st.env 2 = .t (.bool true)∧st.env 7 = .t (.int .i64 k)∧st.h.marks=[])
  (fun x' st=>st.n=36∧x' = .exit 0)
  (by refine ⟨rfl,?_⟩; simp [H.empty]) (by
  rintro k ⟨nn,env,h2⟩ hk ⟨rfl,e0,e1,e2,e7,hm⟩;simp only at e0 e1 e2 e7 hm;rw [LB_run nd27 rfl];by_cases hk':k<ps.length
  · obtain ⟨v,hvv⟩:∃ v,ps[k]?=some v:=⟨ps[k],by simp [hk']⟩
    have hne:ps.map prP≠[]:=by intro e; have:=congrArg List.length e; simp at this; subst this; simp at hk'
    obtain rfl:=hx.eq_of_ne hne;obtain rfl:=hy.eq_of_ne hne;have hg:(ps.map prP)[k]?=some (prP v):=by rw [List.getElem?_map,hvv]; rfl
    have hlm:(ps.map prP).length=ps.length:=by simp
    have c1:(k:Int)<ps.length:=by omega
    generalize ps.map prP=E at *;simp -implicitDefEqProofs (disch:=omega) [-List.getElem?_map,-getElem?_pos,e0,e1,e2,e7,l1,l2,hg,hlm,lv57,eqCells,eqCell,Wp_some,push_set,hm,md,hk']
  · obtain rfl:k=ps.length:=by omega
    simp -implicitDefEqProofs (disch:=omega) [e0,e1,e2,e7,l1,Wp_some])
 subst hq;simp -implicitDefEqProofs (disch:=omega) []
theorem c27 {c:FuncId}{ps:List PT}{dx dy:D}{x y:T}{h:H}(sx:Vai.snap h dx=some x)(sy:Vai.snap h dy=some y)(hx:Slice x (ps.map prP))(hy:Slice y (ps.map prP))(hn:ps.length≤256)(hm:md c 27 = .pure) :
  callD (cx.at c) (call cx prim) 27 [dx,dy,.t (.bool true)] h=some (.t (.bool true),h):=by
 obtain ⟨h',q⟩:=s27 hx hy hn;exact pureOut_flat (ts:=[x,y,.bool true]) cb27 hm (by simp only [allM,sx,sy,snap_t]) q rfl rfl
section
variable {o k:Nat}{h:H}{ps:List PT}(ho:h.objs o=some (.row 57 9 ((ps.map prP).map .t)))
include ho
theorem el_f6:fieldAddrD Tryz.prog h 57 (.ptr o k 0 ps.length) 6=some (.ptr o k 8 ps.length):=by simp [-List.map_map,ho]
theorem el_ix (hk:k<ps.length):indexAddrD Tryz.prog h 22 (.row o 0 ps.length ps.length) (.t (.int .i64 k))=some (.ptr o k 0 ps.length):=by
 have hl:((ps.map prP).map D.t).length=ps.length:=by simp
 simp -implicitDefEqProofs (disch:=omega) [-List.map_map,ho,hl,hk]
variable {x:PT}(hx:ps[k]?=some x)
include hx
theorem el_l6:loadD Tryz.prog h 3 (.ptr o k 8 ps.length)=some (.t (.int .i64 x.at_)):=by
 have hx':((ps.map prP).map D.t)[k]?=some (.t (prP x)):=by rw [List.getElem?_map,List.getElem?_map,hx]; rfl
 simp [-List.map_map,-List.getElem?_map,ho,hx']
theorem el_s6 (v:Int):storeD Tryz.prog h 3 (.ptr o k 8 ps.length) (.t (.int .i64 v))=some (h.set o (.row 57 9 (((ps.set k { x with at_:=v }).map prP).map .t))):=by
 have hx':((ps.map prP).map D.t)[k]?=some (.t (prP x)):=by rw [List.getElem?_map,List.getElem?_map,hx]; rfl
 have hs:((ps.set k { x with at_:=v }).map prP).map D.t=((ps.map prP).map D.t).set k (.t (prP { x with at_:=v })):=by rw [List.map_set,List.map_set]
 rw [hs];simp [-List.map_map,-List.getElem?_map,-List.map_set,ho,hx']
end
end Go.Proofs.YtaldobgfbkllfaaGreatDoor

namespace Go.Proofs.YtaldobgfbkllfaaGreatDoor
open Vai P0
set_option maxHeartbeats 0
set_option maxRecDepth 100000
def bk (s:ByteArray):Nat→ByteArray
 | 0=>s
 | k+1=>⟨#[40]⟩++bk s k ++ ⟨#[41]⟩
theorem bk_list (s:ByteArray)(k:Nat):(bk s (k+1)).data.toList=40::((bk s k).data.toList ++ [41]):=by simp [bk]
theorem bk_size (s:ByteArray):∀ k,(bk s k).size=s.size+2*k
 | 0=>rfl
 | k+1=>by
  have:=congrArg List.length (bk_list s k);simp only [List.length_cons,List.length_append,List.length_nil,len_bytes,bk_size s k] at this;omega
theorem fwd_fwd (a b:Int)(e:Ex):(e.fwd a).fwd b=e.fwd (a+b):=by
 induction e<;>simp [Ex.fwd,PT.fwd,Int.add_assoc, *]
theorem fwd_0 (e:Ex):e.fwd 0=e:=by
 induction e<;>simp [Ex.fwd,PT.fwd, *]
theorem lex_brk {s:ByteArray}(hs:(lexS s).2.2=0)(hz:s.size≤254) :
  ∃ (o c:Tk),lexS (⟨#[40]⟩++s ++ ⟨#[41]⟩)=(o::((lexS s).1.map (fwT 1) ++ [c]),0,0)∧isT4 o bOpen∧isT4 c bClose:=by
 obtain ⟨s1,s2,s3⟩:=lex_ok hs;have d0:(⟨#[40]⟩++s ++ ⟨#[41]⟩:ByteArray).data.toList.drop 0=40::(s.data.toList ++ [41]):=by simp
 have hsz:=size_at d0 (by simp)
 simp only [List.length_cons,List.length_append,List.length_nil,len_bytes] at hsz;generalize (⟨#[40]⟩++s ++ ⟨#[41]⟩:ByteArray)=q at *;have d1:=drop_at (X:=[40]) d0;have d2:=drop_at (X:=s.data.toList) d1;have hl:=len_bytes s;rw [hl] at d2;have hb0:bad q 0 = -1:=by
  rw [bd_one d0 (by decide)]
  refine (bd_in d1 s2).trans ((bd_one d2 (by decide)).trans ?_)
  exact bd_end' (by simp only [List.length_cons,List.length_nil]; omega)
 have hL:Lx q 0 _:=lx_one d0 (.inl rfl) (lx_in d1 stop41 s3 (lx_one d2 (.inr (.inl rfl)) (lx_end' (by omega))))
 exact ⟨_,_,lex_mk (by omega) hb0 hL,⟨rfl,rfl⟩,⟨rfl,rfl⟩⟩
theorem tr_bk {s:ByteArray}{K:Nat}{e:Ex}(hs:(lexS s).2.2=0)(hz:s.size≤200)(ht:Tr (.lv 6) (lexS s).1 K e []):∀ k,k≤20→(lexS (bk s k)).2.2=0∧Tr (.lv 6) (lexS (bk s k)).1 (K+k) (e.fwd k) []
 | 0,_=>⟨hs,by rw [show ((0:Nat):Int)=0 from rfl,fwd_0]; exact ht⟩
 | k+1,hk=>by
  obtain ⟨h1,h2⟩:=tr_bk hs hz ht k (by omega)
  obtain ⟨o,c,hq,ho,hc⟩:=lex_brk h1 (by rw [bk_size]; omega)
  have q:=tr_lift6 (tr_in ho hc h2 1 []) (fun l h1 h2=>opA_no) (by decide)
  rw [fwd_fwd] at q;simp only [bk];rw [hq];exact ⟨rfl,q⟩
theorem lex_pos {s:ByteArray}(hs:(lexS s).2.2=0):∀ t∈(lexS s).1,0≤t.pos∧t.pos<s.size:=fun t ht=>by
 obtain ⟨i,hi,rfl⟩:=List.getElem_of_mem ht;have h:lexS s=((lexS s).1,(lexS s).2.1,0):=by rw [←hs]
 obtain ⟨p,h1,h2,_⟩:=lexS_split h (List.getElem?_eq_getElem hi);rw [h1]; omega
section
variable [Gl]
theorem brk_is {s:ByteArray}{ds:List DV}{r:PR}{ps:List PT}{p:Int}(hz:s.size≤200)(hr:Rd s.size (.lv 6) (lexS s).1 0 [] r)(hb:ParseBy s ds r ps p 0){k:Nat}(hk:k≤20) :
   ∃ r2 ps2 p2 w2,Rd (bk s k).size (.lv 6) (lexS (bk s k)).1 0 [] r2∧ParseBy (bk s k) ds r2 ps2 p2 w2∧((w2=0∧k≤16∧ps2=ps.map (PT.fwd k))∨(w2=134∧0<k∧0≤p2∧p2<(bk s k).size)):=by
 rcases hb with ⟨h1,_,_,h2⟩|⟨h1,⟨h2,_,_,h3⟩|⟨v,out,rfl,⟨hg,rfl,rfl,_⟩|⟨hbad,_⟩⟩⟩
 · exact absurd h2.symm h1
 · exact absurd h3.symm h2
 · obtain ⟨K,e,g1,g2,g3,g4⟩:=rd_tr hr (by omega)
   simp only [List.nil_append,List.length_nil] at g3;subst g3;have hw:=tr_wf g2;obtain ⟨q1,q2⟩:=tr_bk h1 hz g2 k hk;have hw2:=tr_wf q2;have hrd:=(tr_rd (L:=(bk s k).size) q2) 0 [] (by omega)
   by_cases h16:K+k≤16
   · have hr2:=hrd.1 (by omega)
     simp only [List.nil_append,List.length_nil] at hr2;refine ⟨_,(e.fwd k).fl 0,0,0,hr2,.inr ⟨q1,.inr ⟨_,_,rfl,.inl ⟨?_,rfl,rfl,rfl⟩⟩⟩,.inl ⟨rfl,by omega,fwd_fl k e 0⟩⟩
     rw [good_fl hw2,gE_fwd,←good_fl hw]; exact hg
   · obtain ⟨t,htm,hr2⟩:=hrd.2 (by omega)
     have hp:=lex_pos q1 t htm;exact ⟨_,[],t.pos,134,hr2,.inr ⟨q1,.inl ⟨by simp [fauA],rfl,rfl,rfl⟩⟩,.inr ⟨rfl,by omega,hp.1,hp.2⟩⟩
 · obtain ⟨_,x,_,_,_,_,h⟩:=hbad
   split at h<;>cases h
end
end Go.Proofs.YtaldobgfbkllfaaGreatDoor

namespace Go.Proofs.YtaldobgfbkllfaaGreatDoor
open Vai P0
set_option maxHeartbeats 0
set_option maxRecDepth 100000
def PosE (Q:Int→Prop):Ex→Prop
 | .leaf p=>Q p.at_
 | .one _ a q=>PosE Q a∧Q q
 | .two _ a b q=>PosE Q a∧PosE Q b∧Q q
 | .tri a b c q=>PosE Q a∧PosE Q b∧PosE Q c∧Q q
theorem leaf_at {t:Tk}{p:PT}(h:leafA t=some p):p.at_=t.pos:=by
 unfold leafA at h
 repeat' split at h
 all_goals first|(cases h; done)|(cases h; rfl)
theorem tr_pos {Q:Int→Prop}{m:Mt}{ts:List Tk}{k:Nat}{e:Ex}{ts2:List Tk}(h:Tr m ts k e ts2):(∀ t∈ts,Q t.pos)→(match m with|.ch _ a _=>PosE Q a→PosE Q e|_=>PosE Q e):=by
 induction h with
 | un h1 h2 ih=>exact fun hq=>⟨ih fun t ht=>hq t (.tail _ ht),hq _ (.head _)⟩
 | leaf h1 h2=>intro hq; show Q _; rw [leaf_at h2]; exact hq _ (.head _)
 | ubr h1 h2 h3 ih=>exact ih
 | len h1 h2 h3 h4 h5 ih=>exact fun hq=>⟨ih fun t ht=>hq t (.tail _ ht),hq _ (.head _)⟩
 | br h1 h2 h3 ih=>exact fun hq=>ih fun t ht=>hq t (.tail _ ht)
 | lv h1 h2 h3 ih1 ih2=>exact fun hq=>ih2 (fun t ht=>hq t ((tr_suf h2).subset ht)) (ih1 hq)
 | ce h1=>exact fun _ ha=>ha
 | ch h1 h2 h3 h4 ih1 ih2=>exact fun hq ha=>ih2 (fun t ht=>hq t (.tail _ ((tr_suf h3).subset ht))) ⟨ha,ih1 fun t ht=>hq t (.tail _ ht),hq _ (.head _)⟩
 | fno h1 h2 ih=>exact ih
 | fo h1 h2 h3 h4 h5 ih1 ih2 ih3 =>
  intro hq;have q1:=fun t ht=>hq t ((tr_suf h1).subset ht)
  have q2:=fun t ht=>q1 t (.tail _ ht)
  have q3:=fun t ht=>q2 t ((tr_suf h3).subset ht)
  exact ⟨ih1 hq,ih2 q2,ih3 fun t ht=>q3 t (.tail _ ht),q1 _ (.head _)⟩
theorem fl_pos {Q:Int→Prop}{e:Ex}:∀ {o:Nat},PosE Q e→∀ x∈e.fl o,Q x.at_:=by
 induction e with
 | leaf p=>intro o h x hx; simp [Ex.fl] at hx; subst hx; exact h
 | one op a q ih =>
  intro o h x hx;rcases List.mem_append.1 hx with hx|hx
  · exact ih h.1 x hx
  · simp at hx; subst hx; exact h.2
 | two op a b q ih1 ih2 =>
  intro o h x hx;rcases List.mem_append.1 hx with hx|hx
  · exact ih1 h.1 x hx
  rcases List.mem_append.1 hx with hx|hx
  · exact ih2 h.2.1 x hx
  · simp at hx; subst hx; exact h.2.2
 | tri a b c q ih1 ih2 ih3 =>
  intro o h x hx;rcases List.mem_append.1 hx with hx|hx
  · exact ih1 h.1 x hx
  rcases List.mem_append.1 hx with hx|hx
  · exact ih2 h.2.1 x hx
  rcases List.mem_append.1 hx with hx|hx
  · exact ih3 h.2.2.1 x hx
  · simp at hx; subst hx; exact h.2.2.2
variable [Gl]
theorem by_pos {s:ByteArray}{ds:List DV}{r:PR}{ps:List PT}{p:Int}(hr:Rd s.size (.lv 6) (lexS s).1 0 [] r)(hb:ParseBy s ds r ps p 0):∀ x∈ps,0≤x.at_∧x.at_<s.size:=by
 rcases hb with ⟨h1,_,_,h2⟩|⟨h1,⟨h2,_,_,h3⟩|⟨v,out,rfl,⟨hg,rfl,rfl,_⟩|⟨hbad,_⟩⟩⟩
 · exact absurd h2.symm h1
 · exact absurd h3.symm h2
 · obtain ⟨K,e,g1,g2,g3,g4⟩:=rd_tr hr (by omega)
   simp only [List.nil_append,List.length_nil] at g3;subst g3;exact fl_pos (tr_pos (Q:=fun z=>0≤z∧z<s.size) g2 (lex_pos h1))
 · obtain ⟨_,x,_,_,_,_,h⟩:=hbad
   split at h<;>cases h
def mixP (ps:List PT)(k j:Nat):List PT:=ps.take j++(ps.drop j).map (PT.fwd k)
theorem mix_len (ps:List PT)(k j:Nat):(mixP ps k j).length=ps.length:=by simp [mixP]; omega
theorem mix_at {ps:List PT}{k j:Nat}{x:PT}(hx:ps[j]?=some x):(mixP ps k j)[j]?=some (x.fwd k):=by
 have hj:j<ps.length:=by
  rcases Nat.lt_or_ge j ps.length with h|h
  · exact h
  · rw [List.getElem?_eq_none h] at hx; cases hx
 unfold mixP;rw [List.getElem?_append_right (by simp; omega),List.length_take,Nat.min_eq_left (by omega),Nat.sub_self,List.getElem?_map,List.getElem?_drop,Nat.add_zero,hx]; rfl
theorem mix_set {ps:List PT}{k j:Nat}{x:PT}(hx:ps[j]?=some x):(mixP ps k j).set j x=mixP ps k (j+1):=by
 have hj:j<ps.length:=by
  rcases Nat.lt_or_ge j ps.length with h|h
  · exact h
  · rw [List.getElem?_eq_none h] at hx; cases hx
 have hd:ps.drop j=x::ps.drop (j+1):=by
  rw [List.drop_eq_getElem_cons hj]; rw [List.getElem?_eq_getElem hj] at hx; cases hx; rfl
 unfold mixP;rw [List.set_append_right _ _ (by simp; omega),List.length_take,Nat.min_eq_left (by omega),Nat.sub_self,hd,List.map_cons,List.set_cons_zero,List.take_add_one,hx]
 simp
theorem l9a {s:ByteArray}{y:T}{d:D}{K:Nat}(hs:s.size≤200)(hK:K≤20){st:St}{R:CR}(hLp:loopω (LB cx prim 9 Tryz.f9 0) st=R)(en:st.n=102)(e1:st.env 1 = .t y)(e7:st.env 7=d)(e10:st.env 10 = .t (.int .i64 K))(e11:st.env 11 = .t (.str s))(e12:st.env 12 = .t (.int .i64 0)) :
  ∃ nn env h,R=some (.exit 0,⟨nn,env,h⟩)∧nn=102∧h=st.h∧env 1 = .t y∧env 7=d∧env 10 = .t (.int .i64 K)∧env 11 = .t (.str (bk s K)):=by
 obtain ⟨x',⟨nn,env,h2⟩,rfl,g1,rfl,g2,g3,g4,g5,g6⟩:=loop_uses hLp K
  (fun j s'=>s'.n=102∧s'.h=st.h∧s'.env 1 = .t y∧s'.env 7=d∧s'.env 10 = .t (.int .i64 K)∧s'.env 11 = .t (.str (bk s j))∧s'.env 12 = .t (.int .i64 j))
  (fun x' s'=>s'.n=102∧x' = .exit 0∧s'.h=st.h∧s'.env 1 = .t y∧s'.env 7=d∧s'.env 10 = .t (.int .i64 K)∧s'.env 11 = .t (.str (bk s K)))
  ⟨en,rfl,e1,e7,e10,e11,e12⟩ (by
  rintro j ⟨nn,env,h2⟩ hk ⟨rfl,eh,e1,e7,e10,e11,e12⟩;simp only at eh e1 e7 e10 e11 e12;rw [LB_run nd9 rfl];have hz:=bk_size s j;have z1:(⟨#[40]⟩:ByteArray).size=1:=rfl;have z2:(⟨#[41]⟩:ByteArray).size=1:=rfl;have hbk:⟨#[40]⟩++bk s j ++ ⟨#[41]⟩=bk s (j+1):=rfl;have z3:1+(bk s j).size≤9223372036854775807:=by omega
  have z4:1+(bk s j).size+1≤9223372036854775807:=by omega
  by_cases hk':j<K
  · have c1:(j:Int)<K:=by omega
    simp -implicitDefEqProofs (disch:=omega) [e1,e7,e10,e11,e12,c1,Wp_some,ByteArray.size_append,z1,z2,z3,z4,hbk,hk',eh]
  · have hkn:j=K:=by omega
    rw [hkn] at e11 e12;simp -implicitDefEqProofs (disch:=omega) [e1,e7,e10,e11,e12,Wp_some,eh])
 exact ⟨nn,env,h2,rfl,g1,g2,g3,g4,g5,g6⟩
theorem l9b {ps:List PT}{id1 id2:Nat}{K:Nat}(hK:K≤20)(hn:ps.length≤256)(hat:∀ x∈ps,0≤x.at_∧x.at_<1000)(hne:id1≠id2){st:St}{R:CR}(hLp:loopω (LB cx prim 9 Tryz.f9 2) st=R)(en:st.n=102)
  (e7:st.env 7 = .row id1 0 ps.length ps.length) (e10:st.env 10 = .t (.int .i64 K)) (e13:st.env 13 = .row id2 0 ps.length ps.length) (e16:st.env 16 = .t (.int .i64 0))
  (o1:st.h.objs id1=some (.row 57 9 ((ps.map prP).map .t))) (o2:st.h.objs id2=some (.row 57 9 (((ps.map (PT.fwd K)).map prP).map .t))) (hm:st.h.marks=[]) :
  ∃ nn env h,R=some (.exit 2,⟨nn,env,h⟩)∧nn=102∧env 7 = .row id1 0 ps.length ps.length∧env 13 = .row id2 0 ps.length ps.length∧h.objs id1=some (.row 57 9 ((ps.map prP).map .t))∧h.objs id2=some (.row 57 9 ((ps.map prP).map .t))∧h.marks=[]:=by
 obtain ⟨x',⟨nn,env,h2⟩,rfl,g1,rfl,g2,g3,g4,g5,g6⟩:=loop_uses hLp ps.length
  (fun j s'=>s'.n=102∧s'.env 7 = .row id1 0 ps.length ps.length∧s'.env 10 = .t (.int .i64 K)∧s'.env 13 = .row id2 0 ps.length ps.length∧s'.env 16 = .t (.int .i64 j)∧s'.h.objs id1=some (.row 57 9 ((ps.map prP).map .t)) ∧
    s'.h.objs id2=some (.row 57 9 (((mixP ps K j).map prP).map .t))∧s'.h.marks=[])
  (fun x' s'=>s'.n=102∧x' = .exit 2∧s'.env 7 = .row id1 0 ps.length ps.length∧s'.env 13 = .row id2 0 ps.length ps.length∧s'.h.objs id1=some (.row 57 9 ((ps.map prP).map .t))∧s'.h.objs id2=some (.row 57 9 ((ps.map prP).map .t))∧s'.h.marks=[])
  ⟨en,e7,e10,e13,e16,o1,by simpa [mixP] using o2,hm⟩ (by
  rintro j ⟨nn,env,h2⟩ hk ⟨rfl,e7,e10,e13,e16,o1,o2,hm⟩;simp only at e7 e10 e13 e16 o1 o2 hm;have hlE:(((mixP ps K j).map prP).map D.t).length=ps.length:=by simp [mix_len]
  rw [LB_run nd9 rfl];by_cases hk':j<ps.length
  · obtain ⟨v,hvv⟩:∃ v,ps[j]?=some v:=⟨ps[j],by simp [hk']⟩
    have hv:=hat v (List.mem_of_getElem? hvv);have hmx:=mix_at (k:=K) hvv;have hl:=mix_len ps K j;have f1:=el_ix o2 (k:=j) (by omega)
    have f2:=el_f6 (k:=j) o2;have f4:=el_l6 o2 hmx;have f3:=el_s6 o2 hmx v.at_;rw [show ({ (v.fwd K) with at_:=v.at_ }:PT)=v from rfl,mix_set hvv] at f3
    rw [hl] at f1 f2 f3 f4;simp only [PT.fwd] at f4;obtain ⟨h3,hh3⟩:∃ h3,h3=h2.set id2 (.row 57 9 (((mixP ps K (j+1)).map prP).map .t)):=⟨_,rfl⟩;rw [←hh3] at f3;have m3:h3.marks=[]:=by rw [hh3]; exact hm
    have p1:h3.objs id1=some (.row 57 9 ((ps.map prP).map .t)):=by rw [hh3,set_objs,upd_ne _ _ hne]; exact o1
    have p2:h3.objs id2=some (.row 57 9 (((mixP ps K (j+1)).map prP).map .t)):=by rw [hh3]; simp [-List.map_map]
    have c1:(j:Int)<ps.length:=by omega
    have c2:v.at_+(K:Int)-K=v.at_:=by omega
    simp -implicitDefEqProofs (disch:=omega) [-fieldAddrD,-storeD,-load_ptr,-idx_row,-List.map_map,o2,hlE,e7,e10,e13,e16,f1,f2,f3,f4,c1,c2,Wp_some,m3,hk',p1,p2]
  · have hkn:j=ps.length:=by omega
    rw [hkn] at e16 o2;have hmm:mixP ps K ps.length=ps:=by simp [mixP]
    rw [hmm] at o2;have hl2:((ps.map prP).map D.t).length=ps.length:=by simp
    simp -implicitDefEqProofs (disch:=omega) [-List.map_map,o1,o2,hl2,e7,e10,e13,e16,hm,Wp_some])
 exact ⟨nn,env,h2,rfl,g1,g2,g3,g4,g5,g6⟩
end Go.Proofs.YtaldobgfbkllfaaGreatDoor

namespace Go.Proofs.YtaldobgfbkllfaaGreatDoor
open Vai P0
variable [Gl]
set_option maxHeartbeats 0
set_option maxRecDepth 100000
theorem law9 {s:ByteArray}{y:T}{ds:List DV}{n:Int}(hs:s.size≤1000000000)(hy:Slice y (ds.map decT))(hl:ds.length≤2000000)(hn:0≤n∧n≤255):∃ h',call cx prim 9 [.t (.str s),.t y,.t (.int .u8 n)] .empty=some (.t (.bool true),h'):=by
 obtain ⟨r,hr⟩:=rd_any s;obtain ⟨ps,p,w,d,h1,hb,q1,hc⟩:=k20 (c:=9) (h:=.empty) rfl hs hy hl hr rfl;have q24:=fun h=>c24 (c:=9) h rfl
 rcases hc with ⟨rfl,rfl,hw⟩|⟨rfl,h0,id1,_,k2,rfl,k3,k4,_⟩
 · have e:=eqI_false hw
   rw [call_run (cx:=cx) rfl Tryz.func9 ok9 nd9 rfl (lbe rfl) rfl rfl];simp -implicitDefEqProofs (disch:=omega) [q1,q24,e]
 have hln:=by_len hr hb;by_cases h200:s.size≤200
 rotate_left
 · have e1:ltI 200 (s.size:Int)=true:=ltI_true (by omega)
   rw [call_run (cx:=cx) rfl Tryz.func9 ok9 nd9 rfl (lbe rfl) rfl rfl];simp -implicitDefEqProofs (disch:=omega) [q1,q24,eqI,e1]
 have e1:ltI 200 (s.size:Int)=false:=ltI_false (by omega)
 obtain ⟨K,hKn,hK⟩:∃ K:Nat,n.tmod 20=K∧K<20:=⟨(n%20).toNat,by rw [Int.tmod_eq_emod_of_nonneg hn.1]; omega,by omega⟩
 have hpos:=by_pos hr hb;obtain ⟨r2,ps2,p2,w2,hr2,hb2,hres⟩:=brk_is h200 hr hb (k:=K) (by omega)
 have hbz:=bk_size s K;obtain ⟨ps2',p2',w2',d2,h3,hb3,q2,hc2⟩:=k20 (c:=9) (h:=h1) k4 (by omega) hy hl hr2 rfl
 obtain ⟨rfl,rfl,rfl⟩:=parse_fun hb2 hb3;have l1:=fun {st:St} {R:CR}=>l9a (st:=st) (R:=R) (y:=y) (d:=.row id1 0 ps.length ps.length) (K:=K) h200 (by omega)
 obtain ⟨G,hG⟩:∃ G:D→Prop,G=fun d=>d = .t (.bool true):=⟨_,rfl⟩
 have hlE:((ps.map prP).map D.t).length=ps.length:=by simp
 have key:∃ d h',call cx prim 9 [.t (.str s),.t y,.t (.int .u8 n)] .empty=some (d,h')∧G d:=by
   rw [call_run (cx:=cx) rfl Tryz.func9 ok9 nd9 rfl (lbe rfl) rfl rfl];simp -implicitDefEqProofs (disch:=omega) [q1,q24,eqI,e1,hKn];generalize hLp:loopω (LB cx prim 9 Tryz.f9 0) _=R;obtain ⟨nn,env,h2,rfl,rfl,rfl,e1',e7,e10,e11⟩:=l1 hLp rfl (by simp) (by simp) (by simp) (by simp) (by simp)
   rcases hc2 with ⟨rfl,rfl,hw2⟩|⟨rfl,h02,id2,j1,j2,rfl,j3,j4,j5⟩
   · obtain ⟨g1,g2,g3,g4⟩:=hres.resolve_left (fun h=>hw2 h.1)
     subst g1;have c1:(0:Int)<K:=by omega
     have c2:ltI 0 (K:Int)=true:=ltI_true c1;have c3:leI 0 p2=true:=by simp [leI,g3]
     have c4:ltI p2 ((bk s K).size:Int)=true:=ltI_true g4;simp -implicitDefEqProofs (disch:=omega) [q2,e1',e7,e10,e11,eqI,c1,c2,c3,c4,g2,g3,g4];rw [hG]
   · rcases hres with ⟨_,g2,rfl⟩|⟨g1,_⟩
     rotate_left
     · cases g1
     have o1:h3.objs id1=some (.row 57 9 ((ps.map prP).map .t)):=by rw [j5 id1 k2]; exact k3
     have hne:id1≠id2:=by omega
     rw [List.length_map] at q2;have hl2:(((ps.map (PT.fwd K)).map prP).map D.t).length=ps.length:=by simp
     have c1:ltI 16 (K:Int)=false:=ltI_false (by omega)
     have c5:¬ ((16:Int)<K):=by omega
     have l2:=fun {st:St} {R:CR}=>l9b (st:=st) (R:=R) (ps:=ps) (id1:=id1) (id2:=id2) (K:=K) (by omega) hln (fun x hx=>by have:=hpos x hx; omega) hne
     simp -implicitDefEqProofs (disch:=omega) [-List.map_map,q2,e1',e7,e10,e11,eqI,c1,c5,o1,j3,hl2,hlE];generalize hLp2:loopω (LB cx prim 9 Tryz.f9 2) _=R;obtain ⟨nn,env,h4,rfl,rfl,z7,z13,y1,y2,ym⟩:=l2 hLp2 rfl (by simp [e7]) (by simp [e10]) (by simp) (by simp) o1 j3 j4
     have q4:callD (cx.at 9) (call cx prim) 27 [.row id1 0 ps.length ps.length,.row id2 0 ps.length ps.length,.t (.bool true)] h4=some (.t (.bool true),h4) :=
       c27 (row_snap y1 (by simp)) (row_snap y2 (by simp)) (.inr rfl) (.inr rfl) hln rfl
     simp -implicitDefEqProofs (disch:=omega) [z7,z13,q4];rw [hG]
 obtain ⟨d,h',q,g⟩:=key;rw [hG] at g;subst g;exact ⟨h',q⟩
end Go.Proofs.YtaldobgfbkllfaaGreatDoor

namespace Go.Proofs.YtaldobgfbkllfaaGreatDoor
open Vai
abbrev dcSh:Sh:=.agg [.str,.int .i64]
theorem decl_dec {y:T}(h:dcSh.has y):∃ d:DV,y=decT d∧True:=by
 obtain ⟨l,rfl,_,_,rfl,⟨a,rfl⟩,_,_,rfl,⟨k,rfl,_⟩,rfl⟩:=has_agg h;exact ⟨(a,k),rfl,trivial⟩
theorem decl_bulk (l:List DV):l.length≤T.bulk.bulks (l.map decT):=by
 have:=bulks_len (l.map decT) fun x hx=>by
  obtain ⟨d,_,rfl⟩:=List.mem_map.1 hx;simp only [T.bulk,T.bulk.bulks]; omega
 simpa using this
end Go.Proofs.YtaldobgfbkllfaaGreatDoor
