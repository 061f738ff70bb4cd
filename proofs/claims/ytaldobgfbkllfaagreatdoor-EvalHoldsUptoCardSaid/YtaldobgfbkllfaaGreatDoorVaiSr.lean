import Derived.Test.YtaldobgfbkllfaaGreatDoorVaiSq
set_option linter.unusedSimpArgs false
set_option linter.unusedVariables false
set_option linter.unusedSectionVars false
namespace Go.Proofs.YtaldobgfbkllfaaGreatDoor
open Vai
variable [Gl]
set_option maxHeartbeats 0
set_option maxRecDepth 100000
theorem s52 {L:Int}{x:T}{i:Nat}{d p w:Int}{o:D}{h:H}{P:Nat}{all:List Tk}(ho:h.objs P=some (rsO L x i d o p w))(hx:Slice x (all.map Tk.t))(hi:i≤1000000)(hal:all.length≤1000000) :
   call cx prim 52 [.ptr P 0 0 1] h=some (.t (.int .i64 (plc L (all.drop i))),h):=by
 have hc:=P0.Slice.cells hx;have f1:=rs_1 ho hc;have f2:=rs_2 ho hc;have f0:=rs_0 ho;have g:=rs_nil ho;have g0:=rs_f0 ho;have g1:=rs_f1 ho;have g2:=rs_f2 ho;have hlen:=hx.len (P:=Tryz.prog) (t:=80) tk80 h;rw [List.length_map] at hlen;rw [call_run (cx:=cx) rfl Tryz.func52 ok52 nd52 rfl (lbe rfl) rfl rfl];by_cases hlt:i<all.length
 · obtain ⟨t,ht⟩:∃ t,all[i]?=some t:=⟨all[i],List.getElem?_eq_getElem hlt⟩
   have hdr:all.drop i=t::all.drop (i+1):=by
    rw [List.drop_eq_getElem_cons hlt]; rw [List.getElem?_eq_getElem hlt] at ht; cases ht; rfl
   rw [hdr];have hne:all.map Tk.t≠[]:=fun e=>by have:=congrArg List.length e; simp at this; subst this; simp at hlt
   obtain rfl:=hx.eq_of_ne hne;have ht2:(all.map Tk.t)[i]?=some (Tk.t t):=by rw [List.getElem?_map,ht]; rfl
   have hl2:(all.map Tk.t).length=all.length:=by simp
   generalize all.map Tk.t=A at *;simp -implicitDefEqProofs (disch:=omega) [-fieldAddrD,-nilCheckD,-load_ptr,-load_eptr,-getElem?_pos,f0,f1,f2,g,g0,g1,g2,hlen,hlt,ht2,hl2,plc,P0.tkl,P0.tf3,P0.tl3]
 · rw [List.drop_eq_nil_of_le (by omega)]
   simp -implicitDefEqProofs (disch:=omega) [-fieldAddrD,-nilCheckD,-load_ptr,-load_eptr,f0,f1,f2,g,g0,g1,g2,hlen,hlt,plc]
theorem s92 {L:Int}{x:T}{i:Nat}{d p w:Int}{o:D}{h:H}{P:Nat}{all:List Tk}{y:ByteArray}(hy:y≠noText)(ho:h.objs P=some (rsO L x i d o p w))(hx:Slice x (all.map Tk.t))(hi:i≤1000000)(hal:all.length≤1000000) :
   call cx prim 92 [.ptr P 0 0 1,.t (.str y)] h=some (.t (.bool (decide (sg (all.drop i)=y))),h):=by
 have hc:=P0.Slice.cells hx;have f1:=rs_1 ho hc;have f2:=rs_2 ho hc;have f0:=rs_0 ho;have g:=rs_nil ho;have g0:=rs_f0 ho;have g1:=rs_f1 ho;have g2:=rs_f2 ho;have hlen:=hx.len (P:=Tryz.prog) (t:=80) tk80 h;rw [List.length_map] at hlen;rw [call_run (cx:=cx) rfl Tryz.func92 ok92 nd92 rfl (lbe rfl) rfl rfl];by_cases hlt:i<all.length
 · obtain ⟨t,ht⟩:∃ t,all[i]?=some t:=⟨all[i],List.getElem?_eq_getElem hlt⟩
   have hdr:all.drop i=t::all.drop (i+1):=by
    rw [List.drop_eq_getElem_cons hlt]; rw [List.getElem?_eq_getElem hlt] at ht; cases ht; rfl
   rw [hdr];have hne:all.map Tk.t≠[]:=fun e=>by have:=congrArg List.length e; simp at this; subst this; simp at hlt
   obtain rfl:=hx.eq_of_ne hne;have ht2:(all.map Tk.t)[i]?=some (Tk.t t):=by rw [List.getElem?_map,ht]; rfl
   have hl2:(all.map Tk.t).length=all.length:=by simp
   generalize all.map Tk.t=A at *;by_cases h3:3≤t.kind<;>simp -implicitDefEqProofs (disch:=omega) [-fieldAddrD,-nilCheckD,-load_ptr,-load_eptr,-getElem?_pos,f0,f1,f2,g,g0,g1,g2,hlen,hlt,ht2,hl2,P0.tkl,P0.tf0,P0.tf1,P0.tl0,P0.tl1,sg,h3,eqS,show ¬ (noText=y) from fun e=>hy e.symm]
 · rw [List.drop_eq_nil_of_le (by omega)]
   simp -implicitDefEqProofs (disch:=omega) [-fieldAddrD,-nilCheckD,-load_ptr,-load_eptr,f0,f1,f2,g,g0,g1,g2,hlen,hlt,sg,eqS,show ¬ (noText=y) from fun e=>hy e.symm]
theorem s51 {L:Int}{x:T}{i d p w:Int}{o:D}{h:H}{P:Nat}(ho:h.objs P=some (rsO L x i d o p w))(hx:x.cells=[x])(hd:o.cells=[o])(p' w':Int) :
   call cx prim 51 [.ptr P 0 0 1,.t (.int .i64 p'),.t (.int .i64 w')] h=some (.tup [],if w=0 then h.set P (rsO L x i d o p' w') else h):=by
 have f6:=rs_6 ho hx hd;have f51:=rs_f51 ho hx hd;have s5:=rs_s5 ho hx hd p' w';rw [call_run (cx:=cx) rfl Tryz.func51 ok51 nd51 rfl (lbe rfl) rfl rfl];by_cases hw:w=0
 · have e:=eqI_true hw
   simp -implicitDefEqProofs (disch:=omega) [-fieldAddrD,-nilCheckD,-load_ptr,-storeD,rs_nil ho,rs_f5 ho,f6,f51,s5,e,hw]
 · have e:=eqI_false hw
   simp -implicitDefEqProofs (disch:=omega) [-fieldAddrD,-nilCheckD,-load_ptr,-storeD,rs_nil ho,rs_f5 ho,f6,f51,s5,e,hw]
section
variable {L:Int}{x:T}{i:Nat}{d p w:Int}{o:D}{h:H}{P:Nat}{all:List Tk}{c:FuncId}
theorem c52 (ho:h.objs P=some (rsO L x i d o p w))(hx:Slice x (all.map Tk.t))(hi:i≤1000000)(hal:all.length≤1000000)(hm:md c 52 = .keep) :
 callD (cx.at c) (call cx prim) 52 [.ptr P 0 0 1] h=some (.t (.int .i64 (plc L (all.drop i))),h):=keepT cb52 hm (s52 ho hx hi hal)
theorem c92 {y:ByteArray}(hy:y≠noText)(ho:h.objs P=some (rsO L x i d o p w))(hx:Slice x (all.map Tk.t))(hi:i≤1000000)(hal:all.length≤1000000)(hm:md c 92 = .keep) :
 callD (cx.at c) (call cx prim) 92 [.ptr P 0 0 1,.t (.str y)] h=some (.t (.bool (decide (sg (all.drop i)=y))),h):=keepT cb92 hm (s92 hy ho hx hi hal)
theorem c51 (ho:h.objs P=some (rsO L x i d o p w))(hx:x.cells=[x])(hd:o.cells=[o])(p' w':Int)(hm:md c 51 = .keep) :
 callD (cx.at c) (call cx prim) 51 [.ptr P 0 0 1,.t (.int .i64 p'),.t (.int .i64 w')] h=some (.tup [],if w=0 then h.set P (rsO L x i d o p' w') else h):=keepT cb51 hm (s51 ho hx hd p' w')
theorem s93 {dn:Nat}(ho:h.objs P=some (rsO L x i dn o p w))(hx:Slice x (all.map Tk.t))(hd:o.cells=[o])(hi:i≤100000)(hal:all.length≤1000000)(h16:dn<16) :
  call cx prim 93 [.ptr P 0 0 1] h=some (.tup [],h.set P (rsO L x (i+1:Nat) (dn+1:Nat) o p w)):=by
 have hc:=P0.Slice.cells hx;have f3:=rs_3 ho hc;have t3:=rs_s3 ho hc hd ((dn:Int)+1);have ho2:(h.set P (rsO L x i ((dn:Int)+1) o p w)).objs P=some (rsO L x i ((dn:Int)+1) o p w):=by simp
 have f3':=rs_3 ho2 hc;have f2':=rs_2 ho2 hc;have t2:=rs_s2 ho2 hc hd ((i:Int)+1);have e1:¬ (16<(dn:Int)+1):=by omega
 rw [call_run (cx:=cx) rfl Tryz.func93 ok93 nd93 rfl (lbe rfl) rfl rfl];simp -implicitDefEqProofs (disch:=omega) [-fieldAddrD,-nilCheckD,-load_ptr,-storeD,rs_nil ho,rs_f3 ho,f3,t3,rs_nil ho2,rs_f3 ho2,rs_f2 ho2,f3',f2',t2,e1]
theorem s94_err {y:ByteArray}(ho:h.objs P=some (rsO L x i d o p w))(hx:x.cells=[x])(hd:o.cells=[o])(hw:w≠0) :
  call cx prim 94 [.ptr P 0 0 1,.t (.str y)] h=some (.tup [],h):=by
 have f6:=rs_6 ho hx hd;have f51:=rs_f51 ho hx hd;have e:=eqI_false hw;rw [call_run (cx:=cx) rfl Tryz.func94 ok94 nd94 rfl (lbe rfl) rfl rfl];simp -implicitDefEqProofs (disch:=omega) [-fieldAddrD,-nilCheckD,-load_ptr,-storeD,rs_nil ho,rs_f5 ho,f6,f51,e,hw]
theorem s94_ok {y:ByteArray}(hy:y≠noText)(ho:h.objs P=some (rsO L x i d o p 0))(hx:Slice x (all.map Tk.t))(hd:o.cells=[o])(hi:i≤100000)(hal:all.length≤1000000)(hs:sg (all.drop i)=y) :
  call cx prim 94 [.ptr P 0 0 1,.t (.str y)] h=some (.tup [],h.set P (rsO L x (i+1:Nat) d o p 0)):=by
 have hc:=P0.Slice.cells hx;have f6:=rs_6 ho hc hd;have f51:=rs_f51 ho hc hd;have f2:=rs_2 ho hc;have t2:=rs_s2 ho hc hd ((i:Int)+1);have q:=c92 (c:=94) hy ho hx (by omega) hal rfl
 rw [call_run (cx:=cx) rfl Tryz.func94 ok94 nd94 rfl (lbe rfl) rfl rfl];simp -implicitDefEqProofs (disch:=omega) [-fieldAddrD,-nilCheckD,-load_ptr,-storeD,rs_nil ho,rs_f5 ho,rs_f2 ho,f6,f51,f2,t2,q,hs,eqI]
theorem s94_no {y:ByteArray}(hy:y≠noText)(ho:h.objs P=some (rsO L x i d o p 0))(hx:Slice x (all.map Tk.t))(hd:o.cells=[o])(hi:i≤100000)(hal:all.length≤1000000)(hs:sg (all.drop i)≠y) :
  call cx prim 94 [.ptr P 0 0 1,.t (.str y)] h=some (.tup [],h.set P (rsO L x i d o (plc L (all.drop i)) 131)):=by
 have hc:=P0.Slice.cells hx;have f6:=rs_6 ho hc hd;have f51:=rs_f51 ho hc hd;have q:=c92 (c:=94) hy ho hx (by omega) hal rfl
 have q2:=c52 (c:=94) ho hx (by omega) hal rfl
 have q3:=c51 (c:=94) ho hc hd (plc L (all.drop i)) 131 rfl;rw [if_pos rfl] at q3;rw [call_run (cx:=cx) rfl Tryz.func94 ok94 nd94 rfl (lbe rfl) rfl rfl];simp -implicitDefEqProofs (disch:=omega) [-fieldAddrD,-nilCheckD,-load_ptr,-storeD,rs_nil ho,rs_f5 ho,f6,f51,q,q2,q3,hs,eqI]
theorem s93_deep {dn:Nat}(ho:h.objs P=some (rsO L x i dn o p 0))(hx:Slice x (all.map Tk.t))(hd:o.cells=[o])(hi:i≤100000)(hal:all.length≤1000000)(h16:16≤dn)(h17:dn≤1000) :
  call cx prim 93 [.ptr P 0 0 1] h=some (.tup [],h.set P (rsO L x (i+1:Nat) (dn+1:Nat) o (plc L (all.drop i)) 134)):=by
 have hc:=P0.Slice.cells hx;have f3:=rs_3 ho hc;have t3:=rs_s3 ho hc hd ((dn:Int)+1);have ho2:(h.set P (rsO L x i ((dn:Int)+1) o p 0)).objs P=some (rsO L x i ((dn:Int)+1) o p 0):=by simp
 have f3':=rs_3 ho2 hc;have q2:=c52 (c:=93) ho2 hx (by omega) hal rfl
 have q3:=c51 (c:=93) ho2 hc hd (plc L (all.drop i)) 134 rfl;rw [if_pos rfl] at q3;have ho3:(h.set P (rsO L x i ((dn:Int)+1) o (plc L (all.drop i)) 134)).objs P=some (rsO L x i ((dn:Int)+1) o (plc L (all.drop i)) 134):=by simp
 have f2':=rs_2 ho3 hc;have t2:=rs_s2 ho3 hc hd ((i:Int)+1);have e1:(16<(dn:Int)+1):=by omega
 generalize plc L (all.drop i)=pp at *;rw [call_run (cx:=cx) rfl Tryz.func93 ok93 nd93 rfl (lbe rfl) rfl rfl];simp -implicitDefEqProofs (disch:=omega) [-fieldAddrD,-nilCheckD,-load_ptr,-storeD,rs_nil ho,rs_f3 ho,f3,t3,rs_nil ho2,rs_f3 ho2,f3',q2,q3,rs_nil ho3,rs_f2 ho3,f2',t2,e1]
end
def RX (n:Nat)(h:H)(P:Nat)(L:Int)(all:List Tk)(i d:Nat)(out:List PT)(p w:Int):Prop:=n≤P∧P<h.next∧h.marks=[]∧∃ x o,Slice x (all.map Tk.t)∧h.objs P=some (rsO L x i d o p w) ∧
 ((o = .t .nilSlice∧out=[])∨∃ id,n≤id∧id<h.next∧o = .row id 0 out.length out.length∧h.objs id=some (.row 57 9 ((out.map prP).map .t)))
def FrR (n:Nat)(h h':H):Prop:=h.next≤h'.next∧h'.marks=h.marks∧(∀ id,id<n→h'.objs id=h.objs id)
theorem FrR.refl (n:Nat)(h:H):FrR n h h:=⟨Nat.le_refl _,rfl,fun _ _=>rfl⟩
theorem FrR.trans {n:Nat}{h h1 h2:H}(a:FrR n h h1)(b:FrR n h1 h2):FrR n h h2 :=
 ⟨Nat.le_trans a.1 b.1,b.2.1.trans a.2.1,fun id hid=>(b.2.2 id hid).trans (a.2.2 id hid)⟩
theorem RX.get {n:Nat}{h:H}{P:Nat}{L:Int}{all:List Tk}{i d:Nat}{out:List PT}{p w:Int}(hp:RX n h P L all i d out p w) :
   ∃ x o,Slice x (all.map Tk.t)∧o.cells=[o]∧h.objs P=some (rsO L x i d o p w) ∧
    ∀ (i' d':Nat) (p' w':Int),RX n (h.set P (rsO L x i' d' o p' w')) P L all i' d' out p' w'∧FrR n h (h.set P (rsO L x i' d' o p' w')):=by
 obtain ⟨h1,h2,h3,x,o,hx,hd,h5⟩:=hp;have hc:o.cells=[o]:=by
   rcases h5 with ⟨rfl,_⟩|⟨id,_,_,rfl,_⟩<;>rfl
 refine ⟨x,o,hx,hc,hd,fun i' d' p' w'=>⟨⟨h1,h2,h3,x,o,hx,by simp,?_⟩,by simp,by simp,fun id hid=>by simp [show ¬ (id=P) by omega]⟩⟩
 rcases h5 with h5|⟨id,g1,g2,rfl,g3⟩
 · exact .inl h5
 · have hne:id≠P:=fun e=>by
    subst e;rw [hd] at g3;simp [rsO] at g3
   exact .inr ⟨id,g1,g2,rfl,by simp only [set_objs,upd_ne _ _ hne]; exact g3⟩
theorem RX.keep {n:Nat}{h h':H}{P:Nat}{L:Int}{all:List Tk}{i d:Nat}{out:List PT}{p w:Int}(hp:RX n h P L all i d out p w)
   (hn:h.next≤h'.next) (hm:h'.marks=h.marks) (ho:∀ id,id<h.next→h'.objs id=h.objs id):RX n h' P L all i d out p w∧FrR n h h':=by
 obtain ⟨h1,h2,h3,x,o,hx,hd,h5⟩:=hp;refine ⟨⟨h1,by omega,by rw [hm,h3],x,o,hx,by rw [ho P h2,hd],?_⟩,hn,hm,fun id hid=>ho id (by omega)⟩
 rcases h5 with h5|⟨id,g1,g2,rfl,g3⟩
 · exact .inl h5
 · exact .inr ⟨id,g1,by omega,rfl,by rw [ho id g2,g3]⟩
theorem s95 {n:Nat}{h:H}{P:Nat}{L:Int}{all:List Tk}{i d:Nat}{out:List PT}{p w:Int}(hp:RX n h P L all i d out p w)(hlen:out.length≤1000000)(q:PT) :
   ∃ h',call cx prim 95 [.ptr P 0 0 1,.t (prP q)] h=some (.t (.int .i64 out.length),h')∧RX n h' P L all i d (out ++ [q]) p w∧FrR n h h':=by
 obtain ⟨h1,h2,h3,x,o,hx,hd,h5⟩:=hp;rw [call_run (cx:=cx) rfl Tryz.func95 ok95 nd95 rfl (lbe rfl) rfl rfl];have hb:∀ v,(h.push v).objs P=some (rsO L x i d o p w):=fun v=>by simp only [push_objs,upd_ne _ _ (show P≠h.next by omega)]; exact hd
 have hb':∀ v v',((h.push v).push v').objs P=some (rsO L x i d o p w):=fun v v'=>by simp only [push_objs,push_next,upd_ne _ _ (show P≠h.next by omega),upd_ne _ _ (show P≠h.next+1 by omega)]; exact hd
 have hc:=P0.Slice.cells hx;have f1:=fun v=>rs_4 (hb v) hc
 have f2:=fun v=>rs_nil (hb v)
 have f3:=fun v=>rs_f4 (hb v)
 have g1':=fun v v'=>rs_4 (hb' v v') hc
 have g2':=fun v v'=>rs_nil (hb' v v')
 have g3':=fun v v'=>rs_f4 (hb' v v')
 rcases h5 with ⟨rfl,rfl⟩|⟨id,g1,g2,rfl,g3⟩
 · have hb2:∀ v v' v'',(((h.push v).push v').push v'').objs P=some (rsO L x i d (.t .nilSlice) p w):=fun v v' v''=>by
    simp only [push_objs,push_next,upd_ne _ _ (show P≠h.next by omega),upd_ne _ _ (show P≠h.next+1 by omega),upd_ne _ _ (show P≠h.next+1+1 by omega)]; exact hd
   have k2:=fun v v' v''=>rs_nil (hb2 v v' v'')
   have kf:=fun v v' v''=>rs_4 (hb2 v v' v'') hc
   have k3:=fun v v' v''=>rs_f4 (hb2 v v' v'')
   have k4:=fun v v'=>rs_s4 (o':=.row (h.next+1) 0 1 1) (hb' v v') hc rfl rfl (by simp [h3])
   have hb4:∀ v v',(((h.push v).push v').set P (rsO L x i d (.row (h.next+1) 0 1 1) p w)).objs P=some (rsO L x i d (.row (h.next+1) 0 1 1) p w):=fun v v'=>by simp
   have j1:=fun v v'=>rs_4 (hb4 v v') hc
   have j2:=fun v v'=>rs_nil (hb4 v v')
   have j3:=fun v v'=>rs_f4 (hb4 v v')
   simp -implicitDefEqProofs (disch:=omega) [-storeD,-nilCheckD,-fieldAddrD,f1,f2,f3,g1',g2',g3',litSliceD,List.replicate,appendD,sourceD,kf,k2,k3,k4,j1,j2,j3,md,show ¬ (h.next+1=P) by omega]
   refine ⟨⟨h1,by simp; omega,h3,x,_,hx,by simp; rfl,.inr ⟨h.next+1,by omega,by simp,by simp,?_⟩⟩,by simp; omega,by simp,fun id hid=>by simp [show ¬ (id=P) by omega,show ¬ (id=h.next) by omega,show ¬ (id=h.next+1) by omega]⟩
   simp [show ¬ (h.next+1=P) by omega]
 · have hne:id≠P:=fun e=>by
    subst e;rw [hd] at g3;simp [rsO] at g3
   have hb3:∀ v,(h.push v).objs id=some (.row 57 9 ((out.map prP).map .t)):=fun v=>by simp only [push_objs,upd_ne _ _ (show id≠h.next by omega)]; exact g3
   have hb3':∀ v v',((h.push v).push v').objs id=some (.row 57 9 ((out.map prP).map .t)):=fun v v'=>by simp only [push_objs,push_next,upd_ne _ _ (show id≠h.next by omega),upd_ne _ _ (show id≠h.next+1 by omega)]; exact g3
   have hb2:∀ v v',((h.push v).set id v').objs P=some (rsO L x i d (.row id 0 out.length out.length) p w):=fun v v'=>by simp only [push_objs,set_objs,upd_ne _ _ (show P≠h.next by omega),upd_ne _ _ (show P≠id from fun e=>hne e.symm)]; exact hd
   have k2:=fun v v'=>rs_nil (hb2 v v')
   have kf:=fun v v'=>rs_4 (hb2 v v') hc
   have k3:=fun v v'=>rs_f4 (hb2 v v')
   have k4:=fun v v'=>rs_s4 (o':=.row id 0 (out.length+1) (out.length+1)) (hb2 v v') hc rfl rfl (by simp [h3])
   have hb4:∀ v v',(((h.push v).set id v').set P (rsO L x i d (.row id 0 (out.length+1) (out.length+1)) p w)).objs P=some (rsO L x i d (.row id 0 (out.length+1) (out.length+1)) p w):=fun v v'=>by simp
   have j1:=fun v v'=>rs_4 (hb4 v v') hc
   have j2:=fun v v'=>rs_nil (hb4 v v')
   have j3:=fun v v'=>rs_f4 (hb4 v v')
   have e1:(out.length:Nat)+1<140737488355328:=by omega
   have e2:(out.length+1)*88≤140737488355328:=by omega
   simp -implicitDefEqProofs (disch:=omega) [-storeD,-nilCheckD,-fieldAddrD,f1,f2,f3,g1',g2',g3',litSliceD,List.replicate,appendD,sourceD,kf,k2,k3,k4,j1,j2,j3,md,hb3,hb3',h3,e1,e2,show ¬ (id=h.next) by omega,g3,hne]
   refine ⟨⟨h1,by simp; omega,h3,x,_,hx,by simp; rfl,.inr ⟨id,g1,by simp; omega,by simp,?_⟩⟩,by simp,by simp,fun j hj=>by simp [show ¬ (j=P) by omega,show ¬ (j=h.next) by omega,show ¬ (j=id) by omega]⟩
   simp [hne]
section
variable {n:Nat}{h:H}{P:Nat}{L:Int}{all:List Tk}{i d:Nat}{out:List PT}{p w:Int}{c:FuncId}
theorem r52 (hp:RX n h P L all i d out p w)(hi:i≤100000)(hal:all.length≤256)(hm:md c 52 = .keep):callD (cx.at c) (call cx prim) 52 [.ptr P 0 0 1] h=some (.t (.int .i64 (plc L (all.drop i))),h):=by
 obtain ⟨x,o,hx,hc,ho,_⟩:=hp.get;exact c52 ho hx (by omega) (by omega) hm
theorem r92 {y:ByteArray}(hy:y≠noText)(hp:RX n h P L all i d out p w)(hi:i≤100000)(hal:all.length≤256)(hm:md c 92 = .keep) :
  callD (cx.at c) (call cx prim) 92 [.ptr P 0 0 1,.t (.str y)] h=some (.t (.bool (decide (sg (all.drop i)=y))),h):=by
 obtain ⟨x,o,hx,hc,ho,_⟩:=hp.get;exact c92 hy ho hx (by omega) (by omega) hm
theorem r51 (hp:RX n h P L all i d out p 0)(p' w':Int)(hm:md c 51 = .keep) :
  ∃ h',callD (cx.at c) (call cx prim) 51 [.ptr P 0 0 1,.t (.int .i64 p'),.t (.int .i64 w')] h=some (.tup [],h')∧RX n h' P L all i d out p' w'∧FrR n h h':=by
 obtain ⟨x,o,hx,hc,ho,k⟩:=hp.get;have q:=c51 (c:=c) ho (P0.Slice.cells hx) hc p' w' hm;rw [if_pos rfl] at q;exact ⟨_,q,k i d p' w'⟩
theorem r93 (hp:RX n h P L all i d out p 0)(hi:i≤1000)(hal:all.length≤256)(hd:d<16)(hm:md c 93 = .keep) :
  ∃ h',callD (cx.at c) (call cx prim) 93 [.ptr P 0 0 1] h=some (.tup [],h')∧RX n h' P L all (i+1) (d+1) out p 0∧FrR n h h':=by
 obtain ⟨x,o,hx,hc,ho,k⟩:=hp.get;exact ⟨_,keepT cb93 hm (s93 ho hx hc (by omega) (by omega) hd),k (i+1) (d+1) p 0⟩
theorem r93_deep (hp:RX n h P L all i d out p 0)(hi:i≤1000)(hal:all.length≤256)(hd:16≤d)(hd2:d≤1000)(hm:md c 93 = .keep) :
  ∃ h',callD (cx.at c) (call cx prim) 93 [.ptr P 0 0 1] h=some (.tup [],h')∧RX n h' P L all (i+1) (d+1) out (plc L (all.drop i)) 134∧FrR n h h':=by
 obtain ⟨x,o,hx,hc,ho,k⟩:=hp.get;exact ⟨_,keepT cb93 hm (s93_deep ho hx hc (by omega) (by omega) hd hd2),k (i+1) (d+1) _ 134⟩
theorem r94_err {y:ByteArray}(hp:RX n h P L all i d out p w)(hw:w≠0)(hm:md c 94 = .keep):callD (cx.at c) (call cx prim) 94 [.ptr P 0 0 1,.t (.str y)] h=some (.tup [],h):=by
 obtain ⟨x,o,hx,hc,ho,k⟩:=hp.get;exact keepT cb94 hm (s94_err ho (P0.Slice.cells hx) hc hw)
theorem r94 {y:ByteArray}(hy:y≠noText)(hp:RX n h P L all i d out p 0)(hi:i≤1000)(hal:all.length≤256)(hs:sg (all.drop i)=y)(hm:md c 94 = .keep) :
  ∃ h',callD (cx.at c) (call cx prim) 94 [.ptr P 0 0 1,.t (.str y)] h=some (.tup [],h')∧RX n h' P L all (i+1) d out p 0∧FrR n h h':=by
 obtain ⟨x,o,hx,hc,ho,k⟩:=hp.get;exact ⟨_,keepT cb94 hm (s94_ok hy ho hx hc (by omega) (by omega) hs),k (i+1) d p 0⟩
theorem r94_no {y:ByteArray}(hy:y≠noText)(hp:RX n h P L all i d out p 0)(hi:i≤1000)(hal:all.length≤256)(hs:sg (all.drop i)≠y)(hm:md c 94 = .keep) :
  ∃ h',callD (cx.at c) (call cx prim) 94 [.ptr P 0 0 1,.t (.str y)] h=some (.tup [],h')∧RX n h' P L all i d out (plc L (all.drop i)) 131∧FrR n h h':=by
 obtain ⟨x,o,hx,hc,ho,k⟩:=hp.get;exact ⟨_,keepT cb94 hm (s94_no hy ho hx hc (by omega) (by omega) hs),k i d _ 131⟩
theorem r95 (hp:RX n h P L all i d out p w)(hlen:out.length≤1000000)(q:PT)(hm:md c 95 = .keep) :
  ∃ h',callD (cx.at c) (call cx prim) 95 [.ptr P 0 0 1,.t (prP q)] h=some (.t (.int .i64 out.length),h')∧RX n h' P L all i d (out ++ [q]) p w∧FrR n h h':=by
 obtain ⟨h',q1,q2⟩:=s95 hp hlen q;exact ⟨h',keepT cb95 hm q1,q2⟩
end
def RRes (k:FuncId)(xs:List D)(n:Nat)(h:H)(P:Nat)(L:Int)(all:List Tk)(d:Nat):PR→Prop
 | .ok v ts2 out2=>∃ h' i2 p,i2≤all.length∧all.drop i2=ts2∧call cx prim k (.ptr P 0 0 1::xs) h=some (.t (.int .i64 v),h')∧RX n h' P L all i2 d out2 p 0∧FrR n h h'
 | .er p w=>∃ h' v i2 out2,i2≤1000∧call cx prim k (.ptr P 0 0 1::xs) h=some (.t (.int .i64 v),h')∧RX n h' P L all i2 d out2 p w∧FrR n h h'
end Go.Proofs.YtaldobgfbkllfaaGreatDoor

namespace Go.Proofs.YtaldobgfbkllfaaGreatDoor
open Vai
set_option maxHeartbeats 0
set_option maxRecDepth 100000
def sgnT:T:=.agg (sgn.map .str)
def levT:T:=.agg [iv 1,iv 1,iv 1,iv 2,iv 2,iv 3,iv 3,iv 3,iv 3,iv 3,iv 3,iv 4,iv 5]
class GlP extends GlY where
 g0:Gl.tree 0=some sgnT
 g1:Gl.tree 1=some levT
def sgnAt (k:Nat):ByteArray:=sgn.getD k noText
theorem k13 {k:Nat}(h:k<13):k=0∨k=1∨k=2∨k=3∨k=4∨k=5∨k=6∨k=7∨k=8∨k=9∨k=10∨k=11∨k=12:=by omega
theorem ix1 {k:Nat}(hk:k<13)(h:H):indexAddrD Tryz.prog h 172 (.eptr levT 0) (.t (.int .i64 k))=some (.eptr levT k):=by
 rcases k13 hk with rfl|rfl|rfl|rfl|rfl|rfl|rfl|rfl|rfl|rfl|rfl|rfl|rfl<;>rfl
theorem ld1 {k:Nat}(hk:k<13)(h:H):loadD Tryz.prog h 3 (.eptr levT k)=some (.t (.int .i64 (lev k))):=by
 rcases k13 hk with rfl|rfl|rfl|rfl|rfl|rfl|rfl|rfl|rfl|rfl|rfl|rfl|rfl<;>rfl
theorem ix0 {k:Nat}(hk:k<13)(h:H):indexAddrD Tryz.prog h 61 (.eptr sgnT 0) (.t (.int .i64 k))=some (.eptr sgnT k):=by
 rcases k13 hk with rfl|rfl|rfl|rfl|rfl|rfl|rfl|rfl|rfl|rfl|rfl|rfl|rfl<;>rfl
theorem ld0 {k:Nat}(hk:k<13)(h:H):loadD Tryz.prog h 9 (.eptr sgnT k)=some (.t (.str (sgnAt k))):=by
 rcases k13 hk with rfl|rfl|rfl|rfl|rfl|rfl|rfl|rfl|rfl|rfl|rfl|rfl|rfl<;>rfl
def isS (ts:List Tk)(m k:Nat):Bool:=decide (lev k=m)&&match ts with
 | []=>false
 | t::_=>decide (t.kind=4)&&decide (t.text=sgnAt k)
def Sgn4 (all:List Tk):Prop:=∀ t∈all,sg [t]∈sgn→t.kind=4
theorem sgn_idx {k:Nat}(hk:k<13):sgn.findIdx? (fun y=>decide (y=sgnAt k))=some k:=by
 rcases k13 hk with rfl|rfl|rfl|rfl|rfl|rfl|rfl|rfl|rfl|rfl|rfl|rfl|rfl<;>decide
theorem isS_some {ts:List Tk}{m k:Nat}(hk:k<13)(h:isS ts m k=true):opA m (sg ts)=some k:=by
 unfold isS at h
 cases ts with
 | nil=>simp at h
 | cons t ts =>
  simp at h;obtain ⟨h1,h2,h3⟩:=h;unfold opA;rw [show sg (t::ts)=sgnAt k by simp only [sg,h3]; rw [if_pos (by omega)],sgn_idx hk]
  simp only;rw [if_pos h1]
theorem isS_of {all:List Tk}(h4:Sgn4 all){i m k:Nat}(h:opA m (sg (all.drop i))=some k):k<13∧isS (all.drop i) m k=true:=by
 have hk:=opA_lt h;refine ⟨hk,?_⟩;obtain ⟨t,ts,ht⟩:=op_ne h;rw [ht] at h ⊢;unfold opA at h
 cases hf:sgn.findIdx? (fun y=>decide (y=sg (t::ts))) with
 | none=>rw [hf] at h; cases h
 | some j =>
  rw [hf] at h;simp only at h;split at h
  · rename_i hl
    cases h;rw [List.findIdx?_eq_some_iff_getElem] at hf;obtain ⟨hj,hs,_⟩:=hf;simp only [decide_eq_true_eq] at hs;have hmem:sg [t]∈sgn:=by rw [show sg [t]=sg (t::ts) from rfl,←hs]; exact List.getElem_mem _
    have hk4:=h4 t (List.mem_of_mem_drop (by rw [ht]; exact List.mem_cons_self)) hmem
    unfold isS;have hat:sgnAt k=sgn[k]:=by unfold sgnAt; rw [List.getD_eq_getElem?_getD,List.getElem?_eq_getElem hj]; rfl
    simp only [sg,hk4] at hs;rw [if_pos (by omega)] at hs
    simp [hl,hk4,hat,hs]
  · cases h
variable [GlP]
def At96 (P m k:Nat)(h:H)(st:St):Prop:=st.n=60∧st.h=h∧st.env 0 = .ptr P 0 0 1∧st.env 1 = .t (.int .i64 m)∧st.env 4 = .t (.int .i64 0)∧st.env 5 = .t (.int .i64 k)
section
variable {n:Nat}{h:H}{P:Nat}{L:Int}{all:List Tk}{i d:Nat}{out:List PT}{p w:Int}{m k:Nat}
theorem l96_end (hk:¬ (k<13)){st:St}(hst:At96 P m k h st):∃ env',LB cx prim 96 Tryz.f96 0 st=some (.exit 0,⟨60,env',h⟩):=by
 obtain ⟨nn,env,h'⟩:=st;obtain ⟨rfl,rfl,e0,e1,e4,e5⟩:=hst;simp only at e0 e1 e4 e5;rw [LB_run nd96 rfl];have e:¬ ((k:Int)<13):=by omega
 simp -implicitDefEqProofs (disch:=omega) [e0,e1,e4,e5,e]
theorem l96_step (hp:RX n h P L all i d out p w)(hi:i≤1000)(hal:all.length≤256)(hk:k<13){st:St}(hst:At96 P m k h st) :
   if isS (all.drop i) m k=true then ∃ env',LB cx prim 96 Tryz.f96 0 st=some (.ret,⟨60,env',h⟩)∧env' 4 = .t (.int .i64 (6+k))
   else ∃ env',LB cx prim 96 Tryz.f96 0 st=some (.norm,⟨60,env',h⟩)∧At96 P m (k+1) h ⟨60,env',h⟩:=by
 obtain ⟨nn,env,h'⟩:=st;obtain ⟨rfl,rfl,e0,e1,e4,e5⟩:=hst;simp only at e0 e1 e4 e5 hp ⊢;obtain ⟨x,o,hx,hc,ho,_⟩:=hp.get;have hxc:=P0.Slice.cells hx;have f1:=rs_1 ho hxc;have f2:=rs_2 ho hxc;have g:=rs_nil ho;have g1:=rs_f1 ho;have g2:=rs_f2 ho;have hlen:=hx.len (P:=Tryz.prog) (t:=80) tk80 h';rw [List.length_map] at hlen;have a1:=ix1 hk h';have a2:=ld1 hk h';have a3:=ix0 hk h';have a4:=ld0 hk h';have hkk:(k:Int)<13:=by omega
 have t1:=GlP.g1;have t0:=GlP.g0;generalize hl:lev k=l at *;generalize hs:sgnAt k=s at *;generalize levT=LT at *;generalize sgnT=ST at *;unfold At96;by_cases c1:l=m
 · by_cases hlt:i<all.length
   · obtain ⟨t,ht⟩:∃ t,all[i]?=some t:=⟨all[i],List.getElem?_eq_getElem hlt⟩
     have hdr:all.drop i=t::all.drop (i+1):=by
       rw [List.drop_eq_getElem_cons hlt]; rw [List.getElem?_eq_getElem hlt] at ht; cases ht; rfl
     rw [hdr];have hne:all.map Tk.t≠[]:=fun e=>by have:=congrArg List.length e; simp at this; subst this; simp at hlt
     obtain rfl:=hx.eq_of_ne hne;have ht2:(all.map Tk.t)[i]?=some (Tk.t t):=by rw [List.getElem?_map,ht]; rfl
     have hl2:(all.map Tk.t).length=all.length:=by simp
     generalize all.map Tk.t=A at *;by_cases c2:t.kind=4
     · by_cases c3:t.text=s
       · rw [if_pos (by simp [isS,hl,hs,c1,c2,c3]),LB_run nd96 rfl]
         simp -implicitDefEqProofs (disch:=omega) [-fieldAddrD,-nilCheckD,-load_ptr,-load_eptr,-getElem?_pos,e0,e1,e4,e5,t0,t1,a1,a2,a3,a4,f1,f2,g,g1,g2,hlen,hlt,ht2,hl2,P0.tkl,P0.tf0,P0.tf1,P0.tl0,P0.tl1,eqS,c1,c2,c3,hkk,eqI]
       · rw [if_neg (by simp [isS,hs,c3]),LB_run nd96 rfl]
         simp -implicitDefEqProofs (disch:=omega) [-fieldAddrD,-nilCheckD,-load_ptr,-load_eptr,-getElem?_pos,e0,e1,e4,e5,t0,t1,a1,a2,a3,a4,f1,f2,g,g1,g2,hlen,hlt,ht2,hl2,P0.tkl,P0.tf0,P0.tf1,P0.tl0,P0.tl1,eqS,c1,c2,c3,hkk,eqI]
     · rw [if_neg (by simp [isS,c2]),LB_run nd96 rfl]
       simp -implicitDefEqProofs (disch:=omega) [-fieldAddrD,-nilCheckD,-load_ptr,-load_eptr,-getElem?_pos,e0,e1,e4,e5,t0,t1,a1,a2,a3,a4,f1,f2,g,g1,g2,hlen,hlt,ht2,hl2,P0.tkl,P0.tf0,P0.tf1,P0.tl0,P0.tl1,eqS,c1,c2,hkk,eqI]
   · rw [List.drop_eq_nil_of_le (by omega),if_neg (by simp [isS]),LB_run nd96 rfl]
     simp -implicitDefEqProofs (disch:=omega) [-fieldAddrD,-nilCheckD,-load_ptr,-load_eptr,e0,e1,e4,e5,t0,t1,a1,a2,a3,a4,f1,f2,g,g1,g2,hlen,hlt,eqS,c1,hkk,eqI]
 · rw [if_neg (by simp [isS,hl,c1]),LB_run nd96 rfl]
   have c1':¬ ((l:Int)=m):=by omega
   simp -implicitDefEqProofs (disch:=omega) [-fieldAddrD,-nilCheckD,-load_ptr,-load_eptr,e0,e1,e4,e5,t0,t1,a1,a2,a3,a4,f1,f2,g,g1,g2,hlen,c1',eqS,hkk,eqI]
end
end Go.Proofs.YtaldobgfbkllfaaGreatDoor
