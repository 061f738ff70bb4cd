import Derived.Test.YtaldobgfbkllfaaGreatDoorVaiSi
import Derived.Test.YtaldobgfbkllfaaGreatDoorVaiSf
import Derived.Test.YtaldobgfbkllfaaGreatDoorVaiE
set_option linter.unusedSimpArgs false
set_option linter.unusedVariables false
set_option linter.unusedSectionVars false
namespace Go.Proofs.YtaldobgfbkllfaaGreatDoor.P0
open Vai
variable [Gl]
set_option maxHeartbeats 0
set_option maxRecDepth 100000
section
variable {n:Nat}{h h':H}{P:Nat}{s:ByteArray}{ts:List Tk}{d:Nat}{out:List PT}{r:PR}{t:Tk}{ts2:List Tk}{out2:List PT}{p w:Int}{v:Nat}{op:Int}
theorem own_is {x:T}{o:D}(ho:h.objs P=some (psO s x d o))(hx:x.cells=[x]){j:Nat}:Own h P j↔(j=P∨∃ l k,o = .row j 0 l k):=by
 unfold Own;rw [ps_3 ho hx];simp only [Option.some.injEq]
theorem PX.notown (hp:PX n h P s ts d out){j:Nat}(hj:h.next≤j):¬ Own h P j:=by
 obtain ⟨h1,h2,h3,x,o,hx,hd,h5⟩:=hp;rw [own_is hd (Slice.cells hx)];rintro (e|⟨l,k,e⟩)
 · omega
 · rcases h5 with ⟨e2,_⟩|⟨id,g1,g2,e2,g3⟩
   · rw [e2] at e; cases e
   · rw [e2] at e
     have:=(D.row.inj e).1;omega
theorem PX.other (hp:PX n h P s ts d out){j:Nat}(hj:¬ Own h P j)(w:AObj):PX n (h.set j w) P s ts d out∧(∀ i,Own (h.set j w) P i→Own h P i):=by
 obtain ⟨h1,h2,h3,x,o,hx,hd,h5⟩:=hp;have hjP:P≠j:=fun e=>hj (.inl e.symm)
 have hd2:(h.set j w).objs P=some (psO s x d o):=by simp only [set_objs,upd_ne _ _ hjP]; exact hd
 refine ⟨⟨h1,h2,h3,x,o,hx,hd2,?_⟩,fun i hi=>?_⟩
 · rcases h5 with h5|⟨id,g1,g2,rfl,g3⟩
   · exact .inl h5
   · have hne:id≠j:=fun e=>hj ((own_is hd (Slice.cells hx)).2 (.inr ⟨_,_,by rw [e]⟩))
     exact .inr ⟨id,g1,g2,rfl,by simp only [set_objs,upd_ne _ _ hne]; exact g3⟩
 · exact (own_is hd (Slice.cells hx)).2 ((own_is hd2 (Slice.cells hx)).1 hi)
theorem Fr.late (a:Fr n P h h'){j:Nat}(hj:h.next≤j)(hn:n≤h.next){w:AObj}(ho:∀ i,Own (h'.set j w) P i→Own h' P i):Fr n P h (h'.set j w) :=
 ⟨a.1,a.2.1,fun id hid=>by simp only [set_objs,upd_ne _ _ (show id≠j by omega)]; exact a.2.2.1 id hid,
  fun i hi hno=>by simp only [set_objs,upd_ne _ _ (show i≠j by omega)]; exact a.2.2.2.1 i hi hno,
  fun i hi hio=>a.2.2.2.2 i hi (ho i hio)⟩
theorem s226_nil (hp:PX n h P s [] d out):Res 226 n h P s d (.er s.size 131):=by
 obtain ⟨x,o,hx,ho,k⟩:=hp.get;have f1:=ps_1 ho ⟨_,hx⟩;have f0:=ps_0 ho;refine ⟨h,?_,Fr.refl _ _⟩;rw [call_run (cx:=cx) rfl Tryz.func226 ok226 nd226 rfl (lbe rfl) rfl rfl];clear hp k;rcases hx with ⟨rfl,_⟩|rfl <;>
  simp -implicitDefEqProofs (disch:=omega) [-nilCheckD,-fieldAddrD,-load_ptr,ps_nil ho,ps_f1 ho,ps_f0 ho,f0,f1,fau,mkI]
theorem s226_br (hp:PX n h P s (t::ts) d out)(hk:t.kind=4)(ih:∀ h,PX n h P s (t::ts) d out→Res 235 n h P s d r):Res 226 n h P s d r:=by
 obtain ⟨x,o,hx,ho,k⟩:=hp.get;obtain rfl:=slice_cons hx;have f1:=ps_1 ho ⟨_,hx⟩;have g1:=ps_nil ho;have g2:=ps_f1 ho;have hPn:P<h.next:=hp.2.1
 have e1:=kst (h:=h.push (.row 134 4 [.t (.agg [.int .i64 0,.str ⟨#[]⟩,.int .i64 0,.int .i64 0])])) (id:=h.next) (t:=t) (a:=0) (b:=0) (c:=0) (e:=⟨#[]⟩) (by simp)
 obtain ⟨H1,hH1⟩:∃ H1,H1=(h.push (.row 134 4 [.t (.agg [.int .i64 0,.str ⟨#[]⟩,.int .i64 0,.int .i64 0])])).set h.next (.row 134 4 [.t (Tk.t t)]):=⟨_,rfl⟩
 rw [←hH1] at e1;have n1:H1.next=h.next+1:=by rw [hH1]; simp
 have a1:H1.objs h.next=some (.row 134 4 [.t (Tk.t t)]):=by rw [hH1]; simp
 obtain ⟨p1,r1⟩:PX n H1 P s (t::ts) d out∧Fr n P h H1:=by rw [hH1]; exact hp.map1 _ _
 have e2:=pst (h:=H1.push (.row 57 9 [.t (prt 0 0 0 0 0 0 ⟨#[]⟩ ⟨#[]⟩ 0)])) (id:=H1.next) (k:=0) (a:=0) (b:=0) (c:=0) (vk:=0) (vn:=0) (pos:=0) (s:=⟨#[]⟩) (nm:=⟨#[]⟩) (by simp) 1 0 0 0 0 0 t.pos ⟨#[]⟩ ⟨#[]⟩
 obtain ⟨H2,hH2⟩:∃ H2,H2=(H1.push (.row 57 9 [.t (prt 0 0 0 0 0 0 ⟨#[]⟩ ⟨#[]⟩ 0)])).set H1.next (.row 57 9 [.t (prt 1 0 0 0 0 0 ⟨#[]⟩ ⟨#[]⟩ t.pos)]):=⟨_,rfl⟩
 rw [←hH2] at e2;have b2:H2.objs H1.next=some (.row 57 9 [.t (prt 1 0 0 0 0 0 ⟨#[]⟩ ⟨#[]⟩ t.pos)]):=by rw [hH2]; simp
 have a2:H2.objs h.next=some (.row 134 4 [.t (Tk.t t)]):=by rw [hH2]; simp [a1,show ¬ (h.next=H1.next) by omega]
 have k0:=kl0 a2;have k1:=kl1 a2;have k2:=kl2 a2;have k3:=kl3 a1;have j0:=kf0 a2;have j1:=kf1 a2;have j2:=kf2 a2;have j3:=kf3 a1;obtain ⟨p2,r2⟩:PX n H2 P s (t::ts) d out∧Fr n P H1 H2:=by rw [hH2]; exact p1.map1 _ _
 have q:=ih H2 p2;clear k hp p1 hx ho a1 a2 b2 ih
 cases r with
 | ok v ts4 out4 =>
  obtain ⟨h4,q3,g4,r4⟩:=q;have q4:=keepT (cc:=cx.at 226) cb235 rfl q3;refine ⟨h4,?_,g4,(r1.trans r2).trans r4⟩;rw [call_run (cx:=cx) rfl Tryz.func226 ok226 nd226 rfl (lbe rfl) rfl rfl];simp -implicitDefEqProofs (disch:=omega) [-storeD,-nilCheckD,-fieldAddrD,-load_ptr,-load_eptr,f1,g1,g2,tkl,tlw,md,e1,e2,k0,k1,k2,k3,j0,j1,j2,j3,hk,q4]
 | er p w =>
  obtain ⟨h4,q3,r4⟩:=q;have q4:=panT (cc:=cx.at 226) cb235 rfl q3;refine ⟨h4,?_,(r1.trans r2).trans r4⟩;rw [call_run (cx:=cx) rfl Tryz.func226 ok226 nd226 rfl (lbe rfl) rfl rfl];simp -implicitDefEqProofs (disch:=omega) [-storeD,-nilCheckD,-fieldAddrD,-load_ptr,-load_eptr,f1,g1,g2,tkl,tlw,md,e1,e2,k0,k1,k2,k3,j0,j1,j2,j3,hk,q4.1,q4.2]
theorem s226_ler (hp:PX n h P s (t::ts) d out)(hk1:t.kind≠1)(hk2:t.kind≠2)(hk4:t.kind≠4)(ht:t.text=bLen)(ih:∀ h,PX n h P s ts d out→Res 235 n h P s d (.er p w)):Res 226 n h P s d (.er p w):=by
 obtain ⟨x,o,hx,ho,k⟩:=hp.get;obtain rfl:=slice_cons hx;have f1:=ps_1 ho ⟨_,hx⟩;have g1:=ps_nil ho;have g2:=ps_f1 ho;have hPn:P<h.next:=hp.2.1
 have e1:=kst (h:=h.push (.row 134 4 [.t (.agg [.int .i64 0,.str ⟨#[]⟩,.int .i64 0,.int .i64 0])])) (id:=h.next) (t:=t) (a:=0) (b:=0) (c:=0) (e:=⟨#[]⟩) (by simp)
 obtain ⟨H1,hH1⟩:∃ H1,H1=(h.push (.row 134 4 [.t (.agg [.int .i64 0,.str ⟨#[]⟩,.int .i64 0,.int .i64 0])])).set h.next (.row 134 4 [.t (Tk.t t)]):=⟨_,rfl⟩
 rw [←hH1] at e1;have n1:H1.next=h.next+1:=by rw [hH1]; simp
 have a1:H1.objs h.next=some (.row 134 4 [.t (Tk.t t)]):=by rw [hH1]; simp
 obtain ⟨p1,r1⟩:PX n H1 P s (t::ts) d out∧Fr n P h H1:=by rw [hH1]; exact hp.map1 _ _
 have e2:=pst (h:=H1.push (.row 57 9 [.t (prt 0 0 0 0 0 0 ⟨#[]⟩ ⟨#[]⟩ 0)])) (id:=H1.next) (k:=0) (a:=0) (b:=0) (c:=0) (vk:=0) (vn:=0) (pos:=0) (s:=⟨#[]⟩) (nm:=⟨#[]⟩) (by simp) 1 0 0 0 0 0 t.pos ⟨#[]⟩ ⟨#[]⟩
 obtain ⟨H2,hH2⟩:∃ H2,H2=(H1.push (.row 57 9 [.t (prt 0 0 0 0 0 0 ⟨#[]⟩ ⟨#[]⟩ 0)])).set H1.next (.row 57 9 [.t (prt 1 0 0 0 0 0 ⟨#[]⟩ ⟨#[]⟩ t.pos)]):=⟨_,rfl⟩
 rw [←hH2] at e2;have b2:H2.objs H1.next=some (.row 57 9 [.t (prt 1 0 0 0 0 0 ⟨#[]⟩ ⟨#[]⟩ t.pos)]):=by rw [hH2]; simp
 have a2:H2.objs h.next=some (.row 134 4 [.t (Tk.t t)]):=by rw [hH2]; simp [a1,show ¬ (h.next=H1.next) by omega]
 have k0:=kl0 a2;have k1:=kl1 a2;have k2:=kl2 a2;have k3:=kl3 a1;have j0:=kf0 a2;have j1:=kf1 a2;have j2:=kf2 a2;have j3:=kf3 a1;have z1:eqS t.text ⟨#[116,114,117,101]⟩=false:=by rw [ht]; decide
 have z2:eqS t.text ⟨#[102,97,108,115,101]⟩=false:=by rw [ht]; decide
 have z3:eqS t.text ⟨#[108,101,110]⟩=true:=by rw [ht]; decide
 obtain ⟨p2,r2⟩:PX n H2 P s (t::ts) d out∧Fr n P H1 H2:=by rw [hH2]; exact p1.map1 _ _
 obtain ⟨x3,o3,hx3,ho3,kk⟩:=p2.get;obtain rfl:=slice_cons hx3;have g3:=ps_1 ho3 ⟨_,hx3⟩;have g4:=ps_nil ho3;have g5:=ps_f1 ho3;have g6:=ps_s1 ho3 (Slice.cells hx3) (y:=.slice (ts.map Tk.t)) rfl;obtain ⟨p3,r3⟩:=kk (.slice (ts.map Tk.t)) ts d (.inr rfl);have sl':=fun h=>sl_tk h t ts
 simp only [List.map_cons] at sl';obtain ⟨h4,q3,r4⟩:=ih _ p3;have q4:=panT (cc:=cx.at 226) cb235 rfl q3;refine ⟨h4,?_,((r1.trans r2).trans r3).trans r4⟩;clear k kk hp p1 p2 p3 hx ho hx3 ho3 a1 a2 b2 ih q3 r1 r2 r3 r4;rw [call_run (cx:=cx) rfl Tryz.func226 ok226 nd226 rfl (lbe rfl) rfl rfl];simp -implicitDefEqProofs (disch:=omega) [-storeD,-nilCheckD,-fieldAddrD,-load_ptr,-load_eptr,f1,g1,g2,tkl,tlw,md,e1,e2,k0,k1,k2,k3,j0,j1,j2,j3,hk1,hk2,hk4,z1,z2,z3,g3,g4,g5,g6,sl',q4.1,q4.2]
theorem s226_len (hp:PX n h P s (t::ts) d out)(hk1:t.kind≠1)(hk2:t.kind≠2)(hk4:t.kind≠4)(ht:t.text=bLen)(ih:∀ h,PX n h P s ts d out→Res 235 n h P s d (.ok v ts2 out2))(hlen:out2.length≤1000000) :
  Res 226 n h P s d (.ok out2.length ts2 (out2 ++ [nod 5 v 0 0 t.pos])):=by
 obtain ⟨x,o,hx,ho,k⟩:=hp.get;obtain rfl:=slice_cons hx;have f1:=ps_1 ho ⟨_,hx⟩;have g1:=ps_nil ho;have g2:=ps_f1 ho;have hPn:P<h.next:=hp.2.1
 have e1:=kst (h:=h.push (.row 134 4 [.t (.agg [.int .i64 0,.str ⟨#[]⟩,.int .i64 0,.int .i64 0])])) (id:=h.next) (t:=t) (a:=0) (b:=0) (c:=0) (e:=⟨#[]⟩) (by simp)
 obtain ⟨H1,hH1⟩:∃ H1,H1=(h.push (.row 134 4 [.t (.agg [.int .i64 0,.str ⟨#[]⟩,.int .i64 0,.int .i64 0])])).set h.next (.row 134 4 [.t (Tk.t t)]):=⟨_,rfl⟩
 rw [←hH1] at e1;have n1:H1.next=h.next+1:=by rw [hH1]; simp
 have a1:H1.objs h.next=some (.row 134 4 [.t (Tk.t t)]):=by rw [hH1]; simp
 obtain ⟨p1,r1⟩:PX n H1 P s (t::ts) d out∧Fr n P h H1:=by rw [hH1]; exact hp.map1 _ _
 have e2:=pst (h:=H1.push (.row 57 9 [.t (prt 0 0 0 0 0 0 ⟨#[]⟩ ⟨#[]⟩ 0)])) (id:=H1.next) (k:=0) (a:=0) (b:=0) (c:=0) (vk:=0) (vn:=0) (pos:=0) (s:=⟨#[]⟩) (nm:=⟨#[]⟩) (by simp) 1 0 0 0 0 0 t.pos ⟨#[]⟩ ⟨#[]⟩
 obtain ⟨H2,hH2⟩:∃ H2,H2=(H1.push (.row 57 9 [.t (prt 0 0 0 0 0 0 ⟨#[]⟩ ⟨#[]⟩ 0)])).set H1.next (.row 57 9 [.t (prt 1 0 0 0 0 0 ⟨#[]⟩ ⟨#[]⟩ t.pos)]):=⟨_,rfl⟩
 rw [←hH2] at e2;have b2:H2.objs H1.next=some (.row 57 9 [.t (prt 1 0 0 0 0 0 ⟨#[]⟩ ⟨#[]⟩ t.pos)]):=by rw [hH2]; simp
 have a2:H2.objs h.next=some (.row 134 4 [.t (Tk.t t)]):=by rw [hH2]; simp [a1,show ¬ (h.next=H1.next) by omega]
 have k0:=kl0 a2;have k1:=kl1 a2;have k2:=kl2 a2;have k3:=kl3 a1;have j0:=kf0 a2;have j1:=kf1 a2;have j2:=kf2 a2;have j3:=kf3 a1;have z1:eqS t.text ⟨#[116,114,117,101]⟩=false:=by rw [ht]; decide
 have z2:eqS t.text ⟨#[102,97,108,115,101]⟩=false:=by rw [ht]; decide
 have z3:eqS t.text ⟨#[108,101,110]⟩=true:=by rw [ht]; decide
 obtain ⟨p2,r2⟩:PX n H2 P s (t::ts) d out∧Fr n P H1 H2:=by rw [hH2]; exact p1.map1 _ _
 obtain ⟨x3,o3,hx3,ho3,kk⟩:=p2.get;obtain rfl:=slice_cons hx3;have g3:=ps_1 ho3 ⟨_,hx3⟩;have g4:=ps_nil ho3;have g5:=ps_f1 ho3;have g6:=ps_s1 ho3 (Slice.cells hx3) (y:=.slice (ts.map Tk.t)) rfl;obtain ⟨p3,r3⟩:=kk (.slice (ts.map Tk.t)) ts d (.inr rfl);have sl':=fun h=>sl_tk h t ts
 simp only [List.map_cons] at sl';obtain ⟨h4,q3,p4,r4⟩:=ih _ p3;have q4:=keepT (cc:=cx.at 226) cb235 rfl q3;have hno3:¬ Own (H2.set P (psO s (.slice (ts.map Tk.t)) d o3)) P H1.next:=by
  have hq:(H2.set P (psO s (.slice (ts.map Tk.t)) d o3)).objs P=some (psO s (.slice (ts.map Tk.t)) d o3):=by simp
  rw [own_is hq rfl];have h1P:H1.objs P=some (psO s (.slice ((t::ts).map Tk.t)) d o3):=by
   rw [←ho3,hH2]; simp [show ¬ (P=H1.next) by omega]
  exact fun e=>p1.notown (Nat.le_refl _) ((own_is h1P rfl).2 e)
 have hlt:H1.next<(H2.set P (psO s (.slice (ts.map Tk.t)) d o3)).next:=by rw [hH2]; simp
 have hno4:¬ Own h4 P H1.next:=fun e=>hno3 (r4.2.2.2.2 _ hlt e)
 have b4:h4.objs H1.next=some (.row 57 9 [.t (prt 1 0 0 0 0 0 ⟨#[]⟩ ⟨#[]⟩ t.pos)]):=by
  rw [r4.2.2.2.1 _ hlt hno3]; simp [b2,show ¬ (H1.next=P) by omega]
 have m0:=pst0 b4 5;have mf0:=pf0 b4;have mf1:=pf1 b4;have b5:(h4.set H1.next (.row 57 9 [.t (prt 5 0 0 0 0 0 ⟨#[]⟩ ⟨#[]⟩ t.pos)])).objs H1.next=some (.row 57 9 [.t (prt 5 0 0 0 0 0 ⟨#[]⟩ ⟨#[]⟩ t.pos)]):=by simp
 have m1:=pst1 b5 v;have mf2:=pf1 b5;obtain ⟨p6,o6⟩:=p4.other hno4 (.row 57 9 [.t (prt 5 v 0 0 0 0 ⟨#[]⟩ ⟨#[]⟩ t.pos)]);have r6:=(((r1.trans r2).trans r3).trans r4).late (j:=H1.next) (by omega) (by have:=hp.1; omega) o6
 have b6:(h4.set H1.next (.row 57 9 [.t (prt 5 v 0 0 0 0 ⟨#[]⟩ ⟨#[]⟩ t.pos)])).objs H1.next=some (.row 57 9 [.t (prt 5 v 0 0 0 0 ⟨#[]⟩ ⟨#[]⟩ t.pos)]):=by simp
 have g7:=pl b6;obtain ⟨h8,f9,g8,r8⟩:=x128 (c:=226) p6 hlen (nod 5 v 0 0 t.pos) rfl;refine ⟨h8,?_,g8,r6.trans r8⟩;simp only [nod,prP,noText] at f9;clear k kk hp p1 p2 p3 p4 p6 hx ho hx3 ho3 a1 a2 b2 b4 b5 b6 ih q3 r1 r2 r3 r4 r6 r8 o6 hno3 hno4 hlt g8;rw [call_run (cx:=cx) rfl Tryz.func226 ok226 nd226 rfl (lbe rfl) rfl rfl];simp -implicitDefEqProofs (disch:=omega) [-storeD,-nilCheckD,-fieldAddrD,-load_ptr,-load_eptr,f1,g1,g2,tkl,tlw,md,e1,e2,k0,k1,k2,k3,j0,j1,j2,j3,hk1,hk2,hk4,z1,z2,z3,g3,g4,g5,g6,sl',q4,m0,mf0,mf1,m1,mf2,g7,f9]
end
end Go.Proofs.YtaldobgfbkllfaaGreatDoor.P0

namespace Go.Proofs.YtaldobgfbkllfaaGreatDoor
open Vai
set_option maxHeartbeats 0
def Size:List Tk→List PT→PR→Prop
 | ts,out,.ok _ ts2 out2=>out2.length+ts2.length≤out.length+ts.length
 | _,_,.er _ _=>True
theorem rd_size {L:Int}{mo:Mo}{ts:List Tk}{d:Nat}{out:List PT}{r:PR}(h:Rd L mo ts d out r):Size ts out r:=by
 induction h with
 | un_br h1 h2 h3 ih=>exact ih
 | lv_ok h1 h2 h3 ih1 ih2=>rename_i r; cases r<;>simp only [Size] at ih1 ih2 ⊢; omega
 | ch_ok h1 h2 h3 h4 ih1 ih2=>rename_i r _ _ _; cases r<;>simp only [Size,List.length_cons,List.length_append,List.length_nil] at ih1 ih2 ⊢; omega
 | _=>simp only [Size,List.length_cons,List.length_append,List.length_nil] at *; try omega
end Go.Proofs.YtaldobgfbkllfaaGreatDoor
namespace Go.Proofs.YtaldobgfbkllfaaGreatDoor.P0
open Vai
variable [Gl]
set_option maxHeartbeats 0
set_option maxRecDepth 100000
section
variable {n:Nat}{h:H}{P:Nat}{s:ByteArray}{ts:List Tk}{d:Nat}{out:List PT}{r:PR}{t:Tk}{p:PT}
theorem s226_leaf (hp:PX n h P s (t::ts) d out)(hlen:out.length≤1000000)(hl:leafA t=some p):Res 226 n h P s d (.ok out.length ts (out ++ [p])):=by
 unfold leafA at hl;by_cases a1:t.kind=1
 · rw [if_pos a1] at hl; cases hl; exact s226_num hp a1 hlen
 rw [if_neg a1] at hl;by_cases a2:t.kind=2
 · rw [if_pos a2] at hl; cases hl; exact s226_text hp a2 hlen
 rw [if_neg a2] at hl;by_cases a3:t.kind=4
 · rw [if_pos a3] at hl; cases hl
 rw [if_neg a3] at hl;by_cases a4:t.text=bTrue
 · rw [if_pos a4] at hl; cases hl; exact s226_true hp a1 a2 a3 a4 hlen
 rw [if_neg a4] at hl;by_cases a5:t.text=bFalse
 · rw [if_pos a5] at hl; cases hl; exact s226_false hp a1 a2 a3 a5 hlen
 rw [if_neg a5] at hl;by_cases a6:t.text=bLen
 · rw [if_pos a6] at hl; cases hl
 rw [if_neg a6] at hl;cases hl;exact s226_var hp a1 a2 a3 (deq a4) (deq a5) (deq a6) hlen
end
def Said (n:Nat)(h:H)(P:Nat)(s:ByteArray)(ts:List Tk)(d:Nat)(r:PR):Mo→Prop
 | .lv l=>Res (fnOf l) n h P s d r
 | .br=>Res 235 n h P s d r
 | .ch l a k=>l≤5→k+ts.length≤256→∀ st,At157 (l-1) P a k h st→Res157 (l-1) n h P s d st r
theorem len_neg {t:Tk}{ts:List Tk}(ht:t.text=bLen):negA (sg (t::ts))=none:=by
 simp only [sg];split
 · rw [ht]; decide
 · decide
theorem rd_ok {s:ByteArray}{mo:Mo}{ts:List Tk}{d:Nat}{out:List PT}{r:PR}(hr:Rd s.size mo ts d out r) :
  ∀ (n:Nat) (h:H) (P:Nat),PX n h P s ts d out→d≤16→ts.length≤256→out.length+ts.length≤1000→Said n h P s ts d r mo:=by
 induction hr with
 | un_deep h1 h2=>exact fun n h P hp hd hl ho=>s215_deep hp h1 h2 (by omega)
 | un_er h1 h2 h3 ih=>exact fun n h P hp hd hl ho=>s215_er hp h1 h2 fun h' hp'=>ih n h' P hp' (by omega) (by simp at hl; omega) (by simp at ho; omega)
 | un_ok h1 h2 h3 ih =>
  intro n h P hp hd hl ho;have hs:=rd_size h3;simp only [Size,List.length_cons] at hs ho hl;exact s215_ok hp h1 h2 (fun h' hp'=>ih n h' P hp' (by omega) (by omega) (by omega)) (by omega)
 | un_nil=>exact fun n h P hp hd hl ho=>s215_no hp rfl fun h' hp'=>s226_nil hp'
 | un_leaf h1 h2=>exact fun n h P hp hd hl ho=>s215_no hp h1 fun h' hp'=>s226_leaf hp' (by simp at ho; omega) h2
 | un_br h1 h2 h3 ih=>exact fun n h P hp hd hl ho=>s215_no hp h1 fun h' hp'=>s226_br hp' h2 fun h2 hp2=>ih n h2 P hp2 hd hl ho
 | len_er h1 h2 h3 h4 h5 ih=>exact fun n h P hp hd hl ho=>s215_no hp (len_neg h4) fun h' hp'=>s226_ler hp' h1 h2 h3 h4 fun h2 hp2=>ih n h2 P hp2 hd (by simp at hl; omega) (by simp at ho; omega)
 | len_ok h1 h2 h3 h4 h5 ih =>
  intro n h P hp hd hl ho;have hs:=rd_size h5;simp only [Size,List.length_cons] at hs ho hl;exact s215_no hp (len_neg h4) fun h' hp'=>s226_len hp' h1 h2 h3 h4 (fun h2 hp2=>ih n h2 P hp2 hd (by omega) (by omega)) (by omega)
 | br_no h1=>exact fun n h P hp hd hl ho=>s235_no hp h1
 | br_deep h1 h2=>exact fun n h P hp hd hl ho=>s235_deep hp h1 h2 (by omega)
 | br_er h1 h2 h3 ih =>
  intro n h P hp hd hl ho;exact s235 hp h1 h2 (r:=.er _ _) fun h' hp'=>ih n h' P hp' (by omega) (by simp at hl; omega) (by simp at ho; omega)
 | br_cl h1 h2 h3 h4 ih =>
  intro n h P hp hd hl ho;have q:=s235 hp h1 h2 (r:=.ok _ _ _) fun h' hp'=>ih n h' P hp' (by omega) (by simp at hl; omega) (by simp at ho; omega)
  rename_i ts2 out2
  cases ts2 with
  | nil=>exact q
  | cons t2 ts2=>simp only [if_neg h4] at q; exact q
 | br_ok h1 h2 h3 h4 ih =>
  intro n h P hp hd hl ho;have q:=s235 hp h1 h2 (r:=.ok _ _ _) fun h' hp'=>ih n h' P hp' (by omega) (by simp at hl; omega) (by simp at ho; omega)
  simp only [if_pos h4] at q;exact q
 | lv_er h1 h2 ih =>
  rename_i d _ _ _;exact fun n h P hp hd hl ho=>wr (s:=s) (d:=d) h1 (s157_er (s:=s) (d:=d) h1 (ih n h P hp hd hl ho))
 | lv_ok h1 h2 h3 ih1 ih2 =>
  intro n h P hp hd hl ho;have hs:=rd_size h2;have hle:=rd_less h2;simp only [Size,Less] at hs hle;exact wr h1 (s157_ok h1 (ih1 n h P hp hd hl ho) fun h' st hp' hat=>ih2 n h' P hp' hd (by omega) (by omega) (by omega) (by omega) st hat)
 | ch_end h1=>exact fun n h P hp hd hl ho hm hk st hat=>l157_end (by omega) hp h1 hat
 | ch_er h1 h2 h3 ih =>
  intro n h P hp hd hl ho hm hk st hat;simp only [List.length_cons] at hl ho hk;exact l157_er (by omega) hp h1 h2 (by omega) (fun h' hp'=>ih n h' P hp' hd (by omega) (by omega)) hat
 | ch_ok h1 h2 h3 h4 ih1 ih2 =>
  intro n h P hp hd hl ho hm hk st hat;have hs:=rd_size h3;have hle:=rd_less h3;simp only [Size,Less,List.length_cons] at hs hle hl ho hk;exact l157_ok (by omega) hp h1 h2 (by omega) (by omega) (fun h' hp'=>ih1 n h' P hp' hd (by omega) (by omega)) (fun h' st' hp' hat'=>ih2 n h' P hp' hd (by omega) (by simp; omega) hm (by omega) st' hat') hat
 | fo_er h1 ih =>
  rename_i d _ _ _;exact fun n h P hp hd hl ho=>s75_er (s:=s) (d:=d) (ih n h P hp hd hl ho)
 | fo_no h1 h2 ih=>exact fun n h P hp hd hl ho=>s75_no (ih n h P hp hd hl ho) h2
 | fo_deep h1 h2 h3 ih=>exact fun n h P hp hd hl ho=>s75_deep (ih n h P hp hd hl ho) h2 h3 (by omega)
 | fo_b h1 h2 h3 h4 ih1 ih2 =>
  intro n h P hp hd hl ho;have hs:=rd_size h1;have hle:=rd_less h1;simp only [Size,Less,List.length_cons] at hs hle;exact s75_b (ih1 n h P hp hd hl ho) h2 h3 fun h' hp'=>ih2 n h' P hp' (by omega) (by omega) (by omega)
 | fo_cl h1 h2 h3 h4 h5 ih1 ih2 =>
  intro n h P hp hd hl ho;have hs:=rd_size h1;have hle:=rd_less h1;simp only [Size,Less,List.length_cons] at hs hle;exact s75_cl (ih1 n h P hp hd hl ho) h2 h3 (fun h' hp'=>ih2 n h' P hp' (by omega) (by omega) (by omega)) h5
 | fo_c h1 h2 h3 h4 h5 h6 ih1 ih2 ih3 =>
  intro n h P hp hd hl ho;have hs:=rd_size h1;have hle:=rd_less h1;have hs2:=rd_size h4;have hle2:=rd_less h4;simp only [Size,Less,List.length_cons] at hs hle hs2 hle2;exact s75_c (ih1 n h P hp hd hl ho) h2 h3 (fun h' hp'=>ih2 n h' P hp' (by omega) (by omega) (by omega)) h5 fun h' hp'=>ih3 n h' P hp' (by omega) (by omega) (by omega)
 | fo_ok h1 h2 h3 h4 h5 h6 ih1 ih2 ih3 =>
  intro n h P hp hd hl ho;have hs:=rd_size h1;have hle:=rd_less h1;have hs2:=rd_size h4;have hle2:=rd_less h4;have hs3:=rd_size h6;simp only [Size,Less,List.length_cons] at hs hle hs2 hle2 hs3;exact s75_ok (ih1 n h P hp hd hl ho) h2 h3 (fun h' hp'=>ih2 n h' P hp' (by omega) (by omega) (by omega)) h5 (fun h' hp'=>ih3 n h' P hp' (by omega) (by omega) (by omega)) (by omega)
end Go.Proofs.YtaldobgfbkllfaaGreatDoor.P0

namespace Go.Proofs.YtaldobgfbkllfaaGreatDoor.P0
open Vai
variable [Gl]
set_option maxHeartbeats 0
set_option maxRecDepth 100000
theorem reg40 {i:Nat}{ops:Array Oper}{b:Bool}(hb:G40.reg0 = .region i ops b)(st:St):code (cx.at 40) (call cx prim0) loopω G40.reg0 st=codeB (cx.at 40) (call cx prim0) loopω (LB cx prim0 40 Tryz.f40) (.region i ops b) st:=by
 rw [part_LB (fn:=Tryz.f40) nd40 (by decide +kernel) (fun id b hb=>?_),hb]
 rw [findLoop_none _ _ (by rw [show loopIds G40.reg0=[] by decide +kernel]; simp)] at hb
 cases hb
theorem rest40 {x y:Code}(hb:G40.rest = .seq x y)(st:St):code (cx.at 40) (call cx prim0) loopω G40.rest st=codeB (cx.at 40) (call cx prim0) loopω (LB cx prim0 40 Tryz.f40) (.seq x y) st:=by
 rw [part_LB (fn:=Tryz.f40) nd40 (by decide +kernel) (fun id b hb=>?_),hb]
 rw [findLoop_none _ _ (by rw [show loopIds G40.rest=[] by decide +kernel]; simp)] at hb
 cases hb
theorem crest40 {x y:Code}(hb:G40.crest = .seq x y)(st:St):code (cx.at 74) (call cx prim0) loopω G40.crest st=codeB (cx.at 74) (call cx prim0) loopω (LB cx prim0 74 Tryz.f74) (.seq x y) st:=by
 rw [part_LB (fn:=Tryz.f74) nd74 (by decide +kernel) (fun id b hb=>?_),hb]
 rw [findLoop_none _ _ (by rw [show loopIds G40.crest=[] by decide +kernel]; simp)] at hb
 cases hb
def fauA:PR→Int × Int
 | .ok _ [] _=>(0,0)
 | .ok _ (t::_) _=>(t.pos,131)
 | .er p w=>(p,w)
section
variable {n:Nat}{h:H}{P:Nat}{s:ByteArray}{ts:List Tk}{d:Nat}{out:List PT}{r:PR}{t:Tk}{p:PT}
theorem PX.push1 (hp:PX n h P s ts d out)(w:AObj):PX n (h.push w) P s ts d out∧Fr n P h (h.push w)∧¬ Own (h.push w) P h.next:=by
 have hPn:P<h.next:=hp.2.1
 obtain ⟨x,o,hx,ho,_⟩:=hp.get;have ho2:(h.push w).objs P=some (psO s x d o):=by simp only [push_objs,upd_ne _ _ (show P≠h.next by omega)]; exact ho
 obtain ⟨a,b⟩:=hp.keep (h':=h.push w) (by simp) rfl fun id hid=>by simp [show ¬ (id=h.next) by omega]
 exact ⟨a,b,fun e=>hp.notown (Nat.le_refl _) ((own_is ho (Slice.cells hx)).2 ((own_is ho2 (Slice.cells hx)).1 e))⟩
theorem guard_er {h1:H}{env:Nat→D}{R:Nat}{a b a0 b0:Int}(hR:h1.objs R=some (.row 87 2 [.t (.agg [.int .i64 a0,.int .i64 b0])]))(hlt:R<h1.next)(e2:env 2 = .ptr R 0 0 1) :
  ∃ h',guardF cx (call cx prim0) loopω G40 (.ptr R 0 0 1) ⟨17,env,h1⟩ (fau a b)=some (.t (.agg [.int .i64 a,.int .i64 b]),h'):=by
 unfold guardF;rw [show G40.c=74 from rfl,crest40 rfl]
 rw [show G40.cfn.ntmps=16 from rfl,show G40.r1=4 from rfl,show G40.r2=1 from rfl,show G40.fn.results.toList=[.cell 2 87] from rfl]
 simp -implicitDefEqProofs (disch:=omega) [enterE,fau,hR,e2,show ¬ (R=h1.next) by omega]
theorem s40_er {p w:Int}(hp:PX n h P s ts 0 [])(ih:∀ h,PX n h P s ts 0 []→Res 75 n h P s 0 (.er p w)) :
  ∃ h',guardA cx (call cx prim0) loopω G40 40 [.ptr P 0 0 1] h=some (.t (.agg [.int .i64 p,.int .i64 w]),h'):=by
 obtain ⟨p1,r1,no1⟩:=hp.push1 (.row 87 2 [.t (.agg [.int .i64 0,.int .i64 0])]);obtain ⟨h1,q,r2⟩:=ih _ p1;have q2:=panT (cc:=cx.at 40) cb75 rfl q;have hlt:h.next<(h.push (.row 87 2 [.t (.agg [.int .i64 0,.int .i64 0])])).next:=by simp
 have hR:h1.objs h.next=some (.row 87 2 [.t (.agg [.int .i64 0,.int .i64 0])]):=by rw [r2.2.2.2.1 _ hlt no1]; simp
 have hlt2:h.next<h1.next:=Nat.lt_of_lt_of_le hlt r2.1
 unfold guardA;rw [show (G40.fn.ntmps)=17 from rfl,if_pos (by simp)]
 rw [show G40.k=40 from rfl,reg40 rfl]
 simp -implicitDefEqProofs (disch:=omega) [enterE];rw [rest40 rfl,show G40.p=2 from rfl,show G40.f=3 from rfl]
 simp -implicitDefEqProofs (disch:=omega) [q2.1,q2.2,guardR];exact guard_er hR hlt2 (by simp)
theorem guard_no {h1:H}{env:Nat→D}{R:Nat}{d:T}(hR:h1.objs R=some (.row 87 2 [.t (.agg [.int .i64 0,.int .i64 0])]))(e2:env 2 = .ptr R 0 0 1) :
  guardF cx (call cx prim0) loopω G40 (.ptr R 0 0 1) ⟨17,env,h1⟩ .nilIface=some (.t (.agg [.int .i64 0,.int .i64 0]),h1):=by
 unfold guardF;rw [show G40.c=74 from rfl,crest40 rfl]
 rw [show G40.cfn.ntmps=16 from rfl,show G40.r1=4 from rfl,show G40.r2=1 from rfl,show G40.fn.results.toList=[.cell 2 87] from rfl]
 simp -implicitDefEqProofs (disch:=omega) [enterE,hR,e2]
theorem s40_left {v:Nat}{ts2:List Tk}{out2:List PT}(hp:PX n h P s ts 0 [])(ih:∀ h,PX n h P s ts 0 []→Res 75 n h P s 0 (.ok v (t::ts2) out2)) :
  ∃ h',guardA cx (call cx prim0) loopω G40 40 [.ptr P 0 0 1] h=some (.t (.agg [.int .i64 t.pos,.int .i64 131]),h'):=by
 obtain ⟨p1,r1,no1⟩:=hp.push1 (.row 87 2 [.t (.agg [.int .i64 0,.int .i64 0])]);obtain ⟨h1,q,p2,r2⟩:=ih _ p1;have q2:=keepT (cc:=cx.at 40) cb75 rfl q;have hlt:h.next<(h.push (.row 87 2 [.t (.agg [.int .i64 0,.int .i64 0])])).next:=by simp
 have hR:h1.objs h.next=some (.row 87 2 [.t (.agg [.int .i64 0,.int .i64 0])]):=by rw [r2.2.2.2.1 _ hlt no1]; simp
 have hlt2:h.next<h1.next:=Nat.lt_of_lt_of_le hlt r2.1
 obtain ⟨x,o,hx,ho,_⟩:=p2.get;obtain rfl:=slice_cons hx;have f1:=ps_1 ho ⟨_,hx⟩;have f2:=x76 (c:=40) p2 rfl;simp only [plc] at f2;have ge:=fun env e2=>guard_er (a:=t.pos) (b:=131) (env:=env) hR hlt2 e2
 simp only [fau] at ge;unfold guardA;rw [show (G40.fn.ntmps)=17 from rfl,if_pos (by simp)]
 rw [show G40.k=40 from rfl,reg40 rfl]
 simp -implicitDefEqProofs (disch:=omega) [enterE];rw [rest40 rfl,show G40.p=2 from rfl,show G40.f=3 from rfl]
 simp -implicitDefEqProofs (disch:=omega) [-nilCheckD,-fieldAddrD,-load_ptr,q2,ps_nil ho,ps_f1 ho,f1,f2,mkI,guardR];exact ge _ (by simp)
theorem s40_ok {v:Nat}{out2:List PT}(hp:PX n h P s ts 0 [])(ih:∀ h,PX n h P s ts 0 []→Res 75 n h P s 0 (.ok v [] out2)) :
   ∃ h',guardA cx (call cx prim0) loopω G40 40 [.ptr P 0 0 1] h=some (.t (.agg [.int .i64 0,.int .i64 0]),h')∧PX n h' P s [] 0 out2∧h.next≤h'.next∧∀ id,id<n→h'.objs id=h.objs id:=by
 obtain ⟨p1,r1,no1⟩:=hp.push1 (.row 87 2 [.t (.agg [.int .i64 0,.int .i64 0])]);obtain ⟨h1,q,p2,r2⟩:=ih _ p1;have q2:=keepT (cc:=cx.at 40) cb75 rfl q;have hlt:h.next<(h.push (.row 87 2 [.t (.agg [.int .i64 0,.int .i64 0])])).next:=by simp
 have hR:h1.objs h.next=some (.row 87 2 [.t (.agg [.int .i64 0,.int .i64 0])]):=by rw [r2.2.2.2.1 _ hlt no1]; simp
 have hno2:¬ Own h1 P h.next:=fun e=>no1 (r2.2.2.2.2 _ hlt e)
 obtain ⟨p3,_⟩:=p2.other hno2 (.row 87 2 [.t (.agg [.int .i64 0,.int .i64 0])]);have hlt2:h.next<h1.next:=Nat.lt_of_lt_of_le hlt r2.1
 obtain ⟨x,o,hx,ho,_⟩:=p2.get;have f1:=ps_1 ho ⟨_,hx⟩;have hR2:(h1.set h.next (.row 87 2 [.t (.agg [.int .i64 0,.int .i64 0])])).objs h.next=some (.row 87 2 [.t (.agg [.int .i64 0,.int .i64 0])]):=by simp
 have ge:=fun env e2=>guard_no (d:=.nilSlice) (env:=env) hR2 e2
 have fr:h.next≤(h1.set h.next (.row 87 2 [.t (.agg [.int .i64 0,.int .i64 0])])).next∧∀ id,id<n→(h1.set h.next (.row 87 2 [.t (.agg [.int .i64 0,.int .i64 0])])).objs id=h.objs id:=by
   have hnP:=hp.1;have hPn:=hp.2.1;refine ⟨by simp; omega,fun id hid=>?_⟩
   rw [set_objs,upd_ne _ _ (show id≠h.next by omega),r2.2.2.1 id hid,r1.2.2.1 id hid]
 unfold guardA;rw [show (G40.fn.ntmps)=17 from rfl,if_pos (by simp)]
 rw [show G40.k=40 from rfl,reg40 rfl]
 simp -implicitDefEqProofs (disch:=omega) [enterE];rw [rest40 rfl,show G40.p=2 from rfl,show G40.f=3 from rfl]
 rcases hx with ⟨rfl,_⟩|rfl
 · simp -implicitDefEqProofs (disch:=omega) [-nilCheckD,-fieldAddrD,-load_ptr,q2,ps_nil ho,ps_f1 ho,f1,guardR,hR]
   exact ⟨_,ge _ (by simp),p3,fr⟩
 · simp -implicitDefEqProofs (disch:=omega) [-nilCheckD,-fieldAddrD,-load_ptr,q2,ps_nil ho,ps_f1 ho,f1,guardR,hR]
   exact ⟨_,ge _ (by simp),p3,fr⟩
end
end Go.Proofs.YtaldobgfbkllfaaGreatDoor.P0

namespace Go.Proofs.YtaldobgfbkllfaaGreatDoor
open Vai
variable [Gl]
set_option maxHeartbeats 0
set_option maxRecDepth 100000
theorem c104 {c:FuncId}(b:Bool)(h:H)(hm:md c 104 = .pure):callD (cx.at c) (call cx prim) 104 [.t (.bool b)] h=some (.t (vv 2 (if b then 1 else 0) ⟨#[]⟩),h):=by
 obtain ⟨h',q⟩:=s104 b;exact pureT cb104 hm q rfl rfl
def oneV (k xn:Int)(xs:ByteArray):(Int × Int × ByteArray) × Int :=
 if k=4 then ((2,if xn=0 then 1 else 0,⟨#[]⟩),0) else if k=5 then ((1,(xs.size:Int),⟨#[]⟩),0) else if xn = -9223372036854775808 then ((0,0,⟨#[]⟩),141) else ((1,-xn,⟨#[]⟩),0)
abbrev val3 (v:Int × Int × ByteArray):T:=vv v.1 v.2.1 v.2.2
theorem s63e (m:T)(x:PT)(xk xn e1:Int)(xs:ByteArray)(he:e1≠0)
  (hA:∀ h,callD (cx.at 63) (call cx prim) 35 [.t m,.t (iv x.a)] h=some (.tup [.t (vv xk xn xs),.t (iv e1)],h)) (ps vs:T) (hm:m = .agg [ps,vs]) (hc:ps.cells=[ps]) (hc':vs.cells=[vs]) :
  ∃ h',call cx prim 63 [.t m,.t (prP x)] .empty=some (.tup [.t (vv 0 0 ⟨#[]⟩),.t (iv e1)],h'):=by
 subst hm;rw [call_run (cx:=cx) rfl Tryz.func63 ok63 nd63 rfl (lbe rfl) rfl rfl];simp -implicitDefEqProofs (disch:=omega) [hA,he,eqI,hc,hc']
theorem s63 (m:T)(x:PT)(xk xn:Int)(xs:ByteArray)(hk:x.k=3∨x.k=4∨x.k=5)(h1 : -9223372036854775808≤xn)(h2:xn≤9223372036854775807)(hs:xs.size≤9000000000000000000)
   (hA:∀ h,callD (cx.at 63) (call cx prim) 35 [.t m,.t (iv x.a)] h=some (.tup [.t (vv xk xn xs),.t (iv 0)],h)) (ps vs:T) (hm:m = .agg [ps,vs]) (hc:ps.cells=[ps]) (hc':vs.cells=[vs]) :
   ∃ h',call cx prim 63 [.t m,.t (prP x)] .empty=some (.tup [.t (val3 (oneV x.k xn xs).1),.t (iv (oneV x.k xn xs).2)],h'):=by
 subst hm;rw [call_run (cx:=cx) rfl Tryz.func63 ok63 nd63 rfl (lbe rfl) rfl rfl];have q1:=fun b h=>c104 (c:=63) b h rfl
 have q2:=fun n h=>c105 (c:=63) n h rfl
 rcases hk with hk|hk|hk
 · unfold oneV
   by_cases hn:xn = -9223372036854775808
   · simp -implicitDefEqProofs (disch:=omega) [hA,hk,q1,q2,eqI,hn]
   · simp -implicitDefEqProofs (disch:=omega) [hA,hk,q1,q2,eqI,hn]
 · unfold oneV
   simp -implicitDefEqProofs (disch:=omega) [hA,hk,q1,q2,eqI]
 · unfold oneV
   simp -implicitDefEqProofs (disch:=omega) [hA,hk,q1,q2,eqI]
theorem c108 {c:FuncId}(k x:Int)(h:H)(hm:md c 108 = .pure):callD (cx.at c) (call cx prim) 108 [.t (iv k),.t (iv x)] h=some (.t (.bool (holdsC k x)),h):=by
 obtain ⟨h',q⟩:=s108 k x;exact pureT cb108 hm q rfl rfl
theorem c109 {c:FuncId}(k n:Int)(s:ByteArray)(k' n':Int)(s':ByteArray)(h:H)(hm:md c 109 = .pure):callD (cx.at c) (call cx prim) 109 [.t (vv k n s),.t (vv k' n' s')] h=some (.t (iv (cmpV n n' s s')),h):=by
 obtain ⟨h',q⟩:=s109 k n s k' n' s';exact pureT cb109 hm q rfl rfl
theorem c145 {c:FuncId}(a b:Int)(h:H)(hm:md c 145 = .pure):callD (cx.at c) (call cx prim) 145 [.t (iv a),.t (iv b)] h=some (.tup [.t (iv (IntKind.i64.wrap (a-b))),.t (.bool (ltI (IntKind.i64.wrap (a-b)) a == ltI 0 b))],h):=by
 obtain ⟨h',q⟩:=s145 a b;exact pureT cb145 hm q rfl rfl
def mulV (a b:Int):Int × Bool:=if a=0∨b=0 then (0,true) else (IntKind.i64.wrap (a*b),(eqI (IntKind.i64.wrap ((IntKind.i64.wrap (a*b)).tdiv b)) a && !(eqI a (-1)&&eqI b minI)) && !(eqI b (-1)&&eqI a minI))
theorem c146 {c:FuncId}(a b:Int)(h:H)(hm:md c 146 = .pure):callD (cx.at c) (call cx prim) 146 [.t (iv a),.t (iv b)] h=some (.tup [.t (iv (mulV a b).1),.t (.bool (mulV a b).2)],h):=by
 unfold mulV;by_cases hz:a=0∨b=0
 · obtain ⟨h',q⟩:=s146z a b hz
   simp only [if_pos hz];exact pureT cb146 hm q rfl rfl
 · obtain ⟨h',q⟩:=s146 a b (by omega) (by omega)
   simp only [if_neg hz];exact pureT cb146 hm q rfl rfl
theorem c147 {c:FuncId}(a b:Int)(hb:b≠0)(h:H)(hm:md c 147 = .pure):callD (cx.at c) (call cx prim) 147 [.t (iv a),.t (iv b)] h=some (.tup [.t (iv (IntKind.i64.wrap (a.tdiv b))),.t (.bool (!(eqI a (-9223372036854775808)&&eqI b (-1))))],h):=by
 obtain ⟨h',q⟩:=s147 a b hb;exact pureT cb147 hm q rfl rfl
theorem c143 {c:FuncId}(a b:Int)(hb:b≠0)(h:H)(hm:md c 143 = .pure):callD (cx.at c) (call cx prim) 143 [.t (iv a),.t (iv b)] h=some (.tup [.t (iv (a.tmod b)),.t (.bool true)],h):=by
 obtain ⟨h',q⟩:=s143 a b hb;exact pureT cb143 hm q rfl rfl
def numV (k x y:Int):Int × Bool :=
 if k=9 then (IntKind.i64.wrap (x+y),ltI x (IntKind.i64.wrap (x+y)) == ltI 0 y)
 else if k=10 then (IntKind.i64.wrap (x-y),ltI (IntKind.i64.wrap (x-y)) x == ltI 0 y)
 else if k=6 then mulV x y
 else if k=7 then (IntKind.i64.wrap (x.tdiv y),!(eqI x (-9223372036854775808)&&eqI y (-1)))
 else (x.tmod y,true)
def numF (k:Int):FuncId:=if k=9 then 144 else if k=10 then 145 else if k=6 then 146 else if k=7 then 147 else 143
theorem c_num (k x y:Int)(hk:k=6∨k=7∨k=8∨k=9∨k=10)(hy:k=7∨k=8→y≠0)(h:H):callD (cx.at 65) (call cx prim) (numF k) [.t (iv x),.t (iv y)] h=some (.tup [.t (iv (numV k x y).1),.t (.bool (numV k x y).2)],h):=by
 rcases hk with rfl|rfl|rfl|rfl|rfl
 · exact c146 (c:=65) x y h rfl
 · exact c147 (c:=65) x y (hy (.inl rfl)) h rfl
 · exact c143 (c:=65) x y (hy (.inr rfl)) h rfl
 · exact c144 (c:=65) x y h rfl
 · exact c145 (c:=65) x y h rfl
def twoV (k:Int)(x y:Int × Int × ByteArray):(Int × Int × ByteArray) × Int :=
 if k=6∨k=7∨k=8∨k=9∨k=10 then
  if x.1=3 then (if x.2.2.size+y.2.2.size>64 then ((0,0,⟨#[]⟩),3) else ((3,0,x.2.2++y.2.2),0))
  else if y.2.1=0∧(k=7∨k=8) then ((0,0,⟨#[]⟩),142)
  else if (numV k x.2.1 y.2.1).2=true then ((1,(numV k x.2.1 y.2.1).1,⟨#[]⟩),0) else ((0,0,⟨#[]⟩),141)
 else ((2,if holdsC k (cmpV x.2.1 y.2.1 x.2.2 y.2.2)=true then 1 else 0,⟨#[]⟩),0)
abbrev K5 (k:Int):Prop:=k=6∨k=7∨k=8∨k=9∨k=10
section
variable (ps vs:T)(hc:ps.cells=[ps])(hc':vs.cells=[vs])(x:PT)(xk xn yk yn:Int)(xs ys:ByteArray)
include hc hc'
theorem s65e (e:Int)(he:e≠0)
   (hA:∀ h,callD (cx.at 65) (call cx prim) 106 [.t (.agg [ps,vs]),.t (prP x)] h=some (.tup [.t (vv xk xn xs),.t (vv yk yn ys),.t (iv e)],h)) :
   ∃ h',call cx prim 65 [.t (.agg [ps,vs]),.t (prP x)] .empty=some (.tup [.t (vv 0 0 ⟨#[]⟩),.t (iv e)],h'):=by
 rw [call_run (cx:=cx) rfl Tryz.func65 ok65 nd65 rfl (lbe rfl) rfl rfl];have q1:=fun h hh=>c107 (c:=65) h hh rfl
 by_cases hk:K5 x.k
 · obtain ⟨k,a,b,c,vk,vn,s,nm,at_⟩:=x
   simp only at hk;rcases hk with rfl|rfl|rfl|rfl|rfl <;>
   simp -implicitDefEqProofs (disch:=first|omega|exact rfl|simp [H.set,H.push,H.empty]) [hA,q1,eqI,he,lookupD,okD,findT,keyEq,TK.isKey,md]
 · simp only [K5,not_or] at hk
   simp -implicitDefEqProofs (disch:=first|omega|exact rfl|simp [H.set,H.push,H.empty]) [hA,q1,hk,eqI,he,lookupD,okD,findT,keyEq,TK.isKey,md]
theorem s65c (hk:¬ K5 x.k)
  (hA:∀ h,callD (cx.at 65) (call cx prim) 106 [.t (.agg [ps,vs]),.t (prP x)] h=some (.tup [.t (vv xk xn xs),.t (vv yk yn ys),.t (iv 0)],h)) :
  ∃ h',call cx prim 65 [.t (.agg [ps,vs]),.t (prP x)] .empty=some (.tup [.t (vv 2 (if holdsC x.k (cmpV xn yn xs ys) then 1 else 0) ⟨#[]⟩),.t (iv 0)],h'):=by
 rw [call_run (cx:=cx) rfl Tryz.func65 ok65 nd65 rfl (lbe rfl) rfl rfl];have q1:=fun h hh=>c107 (c:=65) h hh rfl
 have q2:=fun h=>c109 (c:=65) xk xn xs yk yn ys h rfl
 have q3:=fun h=>c108 (c:=65) x.k (cmpV xn yn xs ys) h rfl
 have q4:=fun b h=>c104 (c:=65) b h rfl
 simp only [K5,not_or] at hk;simp -implicitDefEqProofs (disch:=first|omega|exact rfl|simp [H.set,H.push,H.empty]) [hA,q1,q2,q3,q4,hk,eqI,lookupD,okD,findT,keyEq,TK.isKey,md]
theorem s65l (hk:K5 x.k)(hT:xk=3)(hL:xs.size+ys.size>64)(hx:xs.size≤1000000000)(hy:ys.size≤1000000000)
  (hA:∀ h,callD (cx.at 65) (call cx prim) 106 [.t (.agg [ps,vs]),.t (prP x)] h=some (.tup [.t (vv xk xn xs),.t (vv yk yn ys),.t (iv 0)],h)) :
  ∃ h',call cx prim 65 [.t (.agg [ps,vs]),.t (prP x)] .empty=some (.tup [.t (vv 0 0 ⟨#[]⟩),.t (iv 3)],h'):=by
 rw [call_run (cx:=cx) rfl Tryz.func65 ok65 nd65 rfl (lbe rfl) rfl rfl];have q1:=fun h hh=>c107 (c:=65) h hh rfl
 have e1:ltI 64 ((xs.size:Int)+ys.size)=true:=ltI_true (by omega)
 obtain ⟨k,a,b,c,vk,vn,s,nm,at_⟩:=x;subst hT;simp only at hk;rcases hk with rfl|rfl|rfl|rfl|rfl <;>
 simp -implicitDefEqProofs (disch:=first|omega|exact rfl|simp [H.set,H.push,H.empty]) [hA,q1,eqI,lookupD,okD,findT,keyEq,TK.isKey,md,e1]
theorem s65t (hk:K5 x.k)(hT:xk=3)(hL:¬ xs.size+ys.size>64)
  (hA:∀ h,callD (cx.at 65) (call cx prim) 106 [.t (.agg [ps,vs]),.t (prP x)] h=some (.tup [.t (vv xk xn xs),.t (vv yk yn ys),.t (iv 0)],h)) :
  ∃ h',call cx prim 65 [.t (.agg [ps,vs]),.t (prP x)] .empty=some (.tup [.t (vv 3 0 (xs++ys)),.t (iv 0)],h'):=by
 rw [call_run (cx:=cx) rfl Tryz.func65 ok65 nd65 rfl (lbe rfl) rfl rfl];have q1:=fun h hh=>c107 (c:=65) h hh rfl
 have e1:ltI 64 ((xs.size:Int)+ys.size)=false:=ltI_false (by omega)
 have e2:xs.size+ys.size≤9223372036854775807:=by omega
 obtain ⟨k,a,b,c,vk,vn,s,nm,at_⟩:=x;subst hT;simp only at hk;rcases hk with rfl|rfl|rfl|rfl|rfl <;>
 simp -implicitDefEqProofs (disch:=first|omega|exact rfl|simp [H.set,H.push,H.empty]) [hA,q1,eqI,lookupD,okD,findT,keyEq,TK.isKey,md,e1,e2]
theorem s65z (hk:x.k=7∨x.k=8)(hT:xk≠3)(hZ:yn=0)
  (hA:∀ h,callD (cx.at 65) (call cx prim) 106 [.t (.agg [ps,vs]),.t (prP x)] h=some (.tup [.t (vv xk xn xs),.t (vv yk yn ys),.t (iv 0)],h)) :
  ∃ h',call cx prim 65 [.t (.agg [ps,vs]),.t (prP x)] .empty=some (.tup [.t (vv 0 0 ⟨#[]⟩),.t (iv 142)],h'):=by
 rw [call_run (cx:=cx) rfl Tryz.func65 ok65 nd65 rfl (lbe rfl) rfl rfl];have q1:=fun h hh=>c107 (c:=65) h hh rfl
 have e1:eqI xk 3=false:=eqI_false hT;obtain ⟨k,a,b,c,vk,vn,s,nm,at_⟩:=x;subst hZ;simp only at hk;rcases hk with rfl|rfl <;>
 simp -implicitDefEqProofs (disch:=first|omega|exact rfl|simp [H.set,H.push,H.empty]) [hA,q1,eqI,lookupD,okD,findT,keyEq,TK.isKey,md,e1,hT]
theorem s65n (hk:K5 x.k)(hT:xk≠3)(hZ:x.k=7∨x.k=8→yn≠0)
   (hA:∀ h,callD (cx.at 65) (call cx prim) 106 [.t (.agg [ps,vs]),.t (prP x)] h=some (.tup [.t (vv xk xn xs),.t (vv yk yn ys),.t (iv 0)],h)) :
   ∃ h',call cx prim 65 [.t (.agg [ps,vs]),.t (prP x)] .empty=some (.tup [.t (if (numV x.k xn yn).2=true then vv 1 (numV x.k xn yn).1 ⟨#[]⟩ else vv 0 0 ⟨#[]⟩),.t (iv (if (numV x.k xn yn).2=true then 0 else 141))],h'):=by
 rw [call_run (cx:=cx) rfl Tryz.func65 ok65 nd65 rfl (lbe rfl) rfl rfl];have q1:=fun h hh=>c107 (c:=65) h hh rfl
 have q3:=fun a h=>c105 (c:=65) a h rfl
 have e1:eqI xk 3=false:=eqI_false hT;have hN:=fun h=>c_num x.k xn yn hk hZ h
 obtain ⟨k,a,b,c,vk,vn,s,nm,at_⟩:=x;simp only at hk hN hZ;generalize hW:(numV k xn yn).1=W at hN ⊢;generalize hB:(numV k xn yn).2=B at hN ⊢;generalize hE:eqI yn 0=E;have hE':k=7∨k=8→E=false:=fun h=>by rw [←hE]; exact eqI_false (hZ h)
 clear hZ hW hB;rcases hk with rfl|rfl|rfl|rfl|rfl
 · replace hN:∀ h,callD (cx.at 65) (call cx prim) 146 [.t (iv xn),.t (iv yn)] h=_:=hN
   cases E<;>cases B <;>
   simp -implicitDefEqProofs (disch:=first|omega|exact rfl|simp [H.set,H.push,H.empty]) [hA,q1,q3,hN,hE,lookupD,okD,findT,keyEq,TK.isKey,md,e1]
 · replace hN:∀ h,callD (cx.at 65) (call cx prim) 147 [.t (iv xn),.t (iv yn)] h=_:=hN
   obtain rfl:E=false:=hE' (by omega)
   cases B <;>
   simp -implicitDefEqProofs (disch:=first|omega|exact rfl|simp [H.set,H.push,H.empty]) [hA,q1,q3,hN,hE,lookupD,okD,findT,keyEq,TK.isKey,md,e1]
 · replace hN:∀ h,callD (cx.at 65) (call cx prim) 143 [.t (iv xn),.t (iv yn)] h=_:=hN
   obtain rfl:E=false:=hE' (by omega)
   cases B <;>
   simp -implicitDefEqProofs (disch:=first|omega|exact rfl|simp [H.set,H.push,H.empty]) [hA,q1,q3,hN,hE,lookupD,okD,findT,keyEq,TK.isKey,md,e1]
 · replace hN:∀ h,callD (cx.at 65) (call cx prim) 144 [.t (iv xn),.t (iv yn)] h=_:=hN
   cases E<;>cases B <;>
   simp -implicitDefEqProofs (disch:=first|omega|exact rfl|simp [H.set,H.push,H.empty]) [hA,q1,q3,hN,hE,lookupD,okD,findT,keyEq,TK.isKey,md,e1]
 · replace hN:∀ h,callD (cx.at 65) (call cx prim) 145 [.t (iv xn),.t (iv yn)] h=_:=hN
   cases E<;>cases B <;>
   simp -implicitDefEqProofs (disch:=first|omega|exact rfl|simp [H.set,H.push,H.empty]) [hA,q1,q3,hN,hE,lookupD,okD,findT,keyEq,TK.isKey,md,e1]
end
theorem s65 (ps vs:T)(hc:ps.cells=[ps])(hc':vs.cells=[vs])(x:PT)(X Y:Int × Int × ByteArray)(hX:X.2.2.size≤1000000000)(hY:Y.2.2.size≤1000000000)
   (hA:∀ h,callD (cx.at 65) (call cx prim) 106 [.t (.agg [ps,vs]),.t (prP x)] h=some (.tup [.t (val3 X),.t (val3 Y),.t (iv 0)],h)) :
   ∃ h',call cx prim 65 [.t (.agg [ps,vs]),.t (prP x)] .empty=some (.tup [.t (val3 (twoV x.k X Y).1),.t (iv (twoV x.k X Y).2)],h'):=by
 unfold twoV;by_cases hk:K5 x.k
 · rw [if_pos hk]
   by_cases hT:X.1=3
   · rw [if_pos hT]
     by_cases hL:X.2.2.size+Y.2.2.size>64
     · rw [if_pos hL]; exact s65l ps vs hc hc' x _ _ _ _ _ _ hk hT hL hX hY hA
     · rw [if_neg hL]; exact s65t ps vs hc hc' x _ _ _ _ _ _ hk hT hL hA
   · rw [if_neg hT]
     by_cases hZ:Y.2.1=0∧(x.k=7∨x.k=8)
     · rw [if_pos hZ]; exact s65z ps vs hc hc' x _ _ _ _ _ _ hZ.2 hT hZ.1 hA
     · rw [if_neg hZ]
       have:=s65n ps vs hc hc' x _ _ _ _ _ _ hk hT (fun h h0=>hZ ⟨h0,h⟩) hA
       cases hB:(numV x.k X.2.1 Y.2.1).2<;>simpa [hB] using this
 · rw [if_neg hk]; exact s65c ps vs hc hc' x _ _ _ _ _ _ hk hA
theorem s60 (k:Int)(id:Nat)(h:H):call cx prim 60 [.t (iv k),.ptr id 0 0 1] h=some (.func (.func 61) [] [.ptr id 0 0 1,.ptr h.next 0 0 1],h.push (.row 3 1 [.t (iv k)])):=by
 rw [call_run (cx:=cx) rfl Tryz.func60 ok60 nd60 rfl (lbe rfl) rfl rfl];simp -implicitDefEqProofs (disch:=omega) []
theorem s61 (v:T)(m r:T)(ps vs:T)(hm:m = .agg [ps,vs])(k:Int)(rk rn e:Int)(rs:ByteArray)(id id2:Nat)(h:H)(hv:v.cells.length=3)(hmk:h.marks=[])
  (h1:h.objs id=some (.row 77 2 [.t m])) (h2:h.objs id2=some (.row 3 1 [.t (iv k)])) (hl1:id<h.next) (hl2:id2<h.next) (hc:ps.cells=[ps]) (hc':vs.cells=[vs])
  (hA:∀ h,callD (cx.at 61) (call cx prim) 35 [.t m,.t (iv k)] h=some (.tup [.t (vv rk rn rs),.t (iv e)],h)) :
  call cx prim 61 [.t v,.ptr id 0 0 1,.ptr id2 0 0 1] h=some (.tup [.t (vv rk rn rs),.t (iv e)],(h.push (.row 26 3 [.t v])).push (.row 26 3 [.t (vv rk rn rs)])):=by
 rw [call_run (cx:=cx) rfl Tryz.func61 ok61 nd61 rfl (lbe rfl) rfl rfl];subst hm;simp -implicitDefEqProofs (disch:=first|omega|simp [H.push,hmk]) [hA,h1,h2,hv,hmk,hc,hc',ne0 hl1,ne0 hl2,ne1 hl1,ne1 hl2,push_setA]
theorem k61 (v:T)(m:T)(ps vs:T)(hm:m = .agg [ps,vs])(k:Int)(rk rn e:Int)(rs:ByteArray)(id id2:Nat)(h:H)(hv:v.cells.length=3)(hmk:h.marks=[])
  (h1:h.objs id=some (.row 77 2 [.t m])) (h2:h.objs id2=some (.row 3 1 [.t (iv k)])) (hl1:id<h.next) (hl2:id2<h.next) (hc:ps.cells=[ps]) (hc':vs.cells=[vs])
  (hA:∀ h,callD (cx.at 61) (call cx prim) 35 [.t m,.t (iv k)] h=some (.tup [.t (vv rk rn rs),.t (iv e)],h)) :
  ∃ h',callD (cx.at 64) (call cx prim) 61 [.t v,.ptr id 0 0 1,.ptr id2 0 0 1] h=some (.tup [.t (vv rk rn rs),.t (iv e)],h')∧Keeps h h' :=
 ⟨_,keepT cb61 rfl (s61 v m (vv rk rn rs) ps vs hm k rk rn e rs id id2 h hv hmk h1 h2 hl1 hl2 hc hc' hA),(Keeps.push _ _).trans (Keeps.push _ _)⟩
theorem k62 (k n:Int)(s:ByteArray)(h:H)(hmk:h.marks=[]):∃ h',callD (cx.at 64) (call cx prim) 62 [.t (vv k n s)] h=some (.tup [.t (vv k n s),.t (iv 0)],h')∧Keeps h h':=by
 have:call cx prim 62 [.t (vv k n s)] h=some (.tup [.t (vv k n s),.t (iv 0)],(h.push (.row 26 3 [.t (vv k n s)])).push (.row 26 3 [.t (vv k n s)])):=by
  rw [call_run (cx:=cx) rfl Tryz.func62 ok62 nd62 rfl (lbe rfl) rfl rfl];simp -implicitDefEqProofs (disch:=first|omega|simp [H.push,hmk]) [hmk,push_setA]
 exact ⟨_,keepT cb62 rfl this,(Keeps.push _ _).trans (Keeps.push _ _)⟩
section
variable (ps vs:T)(hc:ps.cells=[ps])(hc':vs.cells=[vs])(a:Int)(fy fn:FuncId)(cy cn:List D)(h:H)(hmk:h.marks=[])
include hc hc' hmk
theorem s64e (xk xn e:Int)(xs:ByteArray)(he:e≠0)(hA:∀ h,callD (cx.at 64) (call cx prim) 35 [.t (.agg [ps,vs]),.t (iv a)] h=some (.tup [.t (vv xk xn xs),.t (iv e)],h)) :
  ∃ h',call cx prim 64 [.t (.agg [ps,vs]),.t (iv a),.func (.func fy) [] cy,.func (.func fn) [] cn] h=some (.tup [.t (vv 0 0 ⟨#[]⟩),.t (iv e)],h')∧Keeps h h':=by
 rw [call_run (cx:=cx) rfl Tryz.func64 ok64 nd64 rfl (lbe rfl) rfl rfl];simp -implicitDefEqProofs (disch:=first|omega|simp [H.push,hmk]) [hA,he,eqI,hmk,hc,hc',push_setA]
 exact ((((Keeps.push _ _).trans (Keeps.push _ _)).trans (Keeps.push _ _)).set (by omega)).set (by omega)
theorem s64 (xk xn:Int)(xs:ByteArray)(hA:∀ h,callD (cx.at 64) (call cx prim) 35 [.t (.agg [ps,vs]),.t (iv a)] h=some (.tup [.t (vv xk xn xs),.t (iv 0)],h))(r:Int × Int × ByteArray)(e:Int)
   (hyes:xn=1→∀ h',Keeps h h'→∃ h2,callD (cx.at 64) (call cx prim) fy (.t (vv xk xn xs)::cy) h'=some (.tup [.t (val3 r),.t (iv e)],h2)∧Keeps h' h2)
   (hno:xn≠1→∀ h',Keeps h h'→∃ h2,callD (cx.at 64) (call cx prim) fn (.t (vv xk xn xs)::cn) h'=some (.tup [.t (val3 r),.t (iv e)],h2)∧Keeps h' h2) :
   ∃ h',call cx prim 64 [.t (.agg [ps,vs]),.t (iv a),.func (.func fy) [] cy,.func (.func fn) [] cn] h=some (.tup [.t (val3 r),.t (iv e)],h')∧Keeps h h':=by
 rw [call_run (cx:=cx) rfl Tryz.func64 ok64 nd64 rfl (lbe rfl) rfl rfl];have K:Keeps h (((h.push (.row 77 2 [.t (.agg [ps,vs])])).push (.row 26 3 [.t (vv 0 0 ⟨#[]⟩)])).push (.row 26 3 [.t (vv xk xn xs)])):=((Keeps.push _ _).trans (Keeps.push _ _)).trans (Keeps.push _ _);by_cases hn:xn=1
 · obtain ⟨h2,q,hk⟩:=hyes hn _ K
   have o1:=hk.obj (id:=h.next+1) (o:=.row 26 3 [.t (vv 0 0 ⟨#[]⟩)]) (by simp [H.push,upd]) (by simp [H.push])
   subst hn;simp -implicitDefEqProofs (disch:=first|omega|simp [H.push,hmk]) [hA,q,eqI,hmk,hc,hc',push_setA,push_setB,o1]
   exact (K.trans hk).set (by omega)
 · obtain ⟨h2,q,hk⟩:=hno hn _ K
   have o1:=hk.obj (id:=h.next+1) (o:=.row 26 3 [.t (vv 0 0 ⟨#[]⟩)]) (by simp [H.push,upd]) (by simp [H.push])
   simp -implicitDefEqProofs (disch:=first|omega|simp [H.push,hmk]) [hA,q,eqI,hn,hmk,hc,hc',push_setA,push_setB,o1]
   exact (K.trans hk).set (by omega)
end
theorem k60 (k:Int)(id:Nat)(h:H):callD (cx.at 35) (call cx prim) 60 [.t (iv k),.ptr id 0 0 1] h=some (.func (.func 61) [] [.ptr id 0 0 1,.ptr h.next 0 0 1],h.push (.row 3 1 [.t (iv k)])) :=
 keepT cb60 rfl (s60 k id h)
section
variable (ps:List PT)(vs:T)(hc':vs.cells=[vs])(i:Nat)(x:PT)(hx:ps[i]?=some x)
include hc' hx
theorem s35o (hk:x.k=3∨x.k=4∨x.k=5)(r:Int × Int × ByteArray)(e:Int)
  (hO:∀ h,callD (cx.at 35) (call cx prim) 63 [.t (mch ps vs),.t (prP x)] h=some (.tup [.t (val3 r),.t (iv e)],h)) :
  ∃ h',call cx prim 35 [.t (mch ps vs),.t (iv i)] .empty=some (.tup [.t (val3 r),.t (iv e)],h'):=by
 rw [call_run (cx:=cx) rfl Tryz.func35 ok35 nd35 rfl (lbe rfl) rfl rfl];have hg:(ps.map prP)[i]?=some (prP x):=by rw [List.getElem?_map,hx]; rfl
 obtain ⟨k,a,b,c,vk,vn,s,nm,at_⟩:=x;simp only at hk;rcases hk with rfl|rfl|rfl <;>
 simp -implicitDefEqProofs (disch:=omega) [-List.getElem?_map,hg,hO,hc']
theorem s35t (hk:6≤x.k∧x.k≤16)(r:Int × Int × ByteArray)(e:Int)
  (hO:∀ h,callD (cx.at 35) (call cx prim) 65 [.t (mch ps vs),.t (prP x)] h=some (.tup [.t (val3 r),.t (iv e)],h)) :
  ∃ h',call cx prim 35 [.t (mch ps vs),.t (iv i)] .empty=some (.tup [.t (val3 r),.t (iv e)],h'):=by
 rw [call_run (cx:=cx) rfl Tryz.func35 ok35 nd35 rfl (lbe rfl) rfl rfl];have hg:(ps.map prP)[i]?=some (prP x):=by rw [List.getElem?_map,hx]; rfl
 simp -implicitDefEqProofs (disch:=omega) [-List.getElem?_map,hg,hO,hc']
theorem s35a (hk:x.k=17)(r:Int × Int × ByteArray)(e:Int)
  (hO:∀ h,h.marks=[]→h.objs 0=some (.row 77 2 [.t (mch ps vs)])→h.objs 3=some (.row 3 1 [.t (iv x.b)])→h.next=4→∃ h',callD (cx.at 35) (call cx prim) 64 [.t (mch ps vs),.t (iv x.a),.func (.func 61) [] [.ptr 0 0 0 1,.ptr 3 0 0 1],.func (.func 62) [] []] h=some (.tup [.t (val3 r),.t (iv e)],h')∧Keeps h h') :
  ∃ h',call cx prim 35 [.t (mch ps vs),.t (iv i)] .empty=some (.tup [.t (val3 r),.t (iv e)],h'):=by
 rw [call_run (cx:=cx) rfl Tryz.func35 ok35 nd35 rfl (lbe rfl) rfl rfl];have hg:(ps.map prP)[i]?=some (prP x):=by rw [List.getElem?_map,hx]; rfl
 obtain ⟨k,a,b,c,vk,vn,s,nm,at_⟩:=x;simp only at hk;subst hk;obtain ⟨h2,q,kp⟩:=hO ((((H.empty.push (.row 77 2 [.t (mch ps vs)])).push (.row 26 3 [.t (vv 0 0 ⟨#[]⟩)])).push (.row 57 9 [.t (prt 17 a b c vk vn s nm at_)])).push (.row 3 1 [.t (iv b)])) rfl rfl rfl rfl;have o1:=kp.obj (id:=1) (o:=.row 26 3 [.t (vv 0 0 ⟨#[]⟩)]) rfl (by simp [H.push,H.empty])
 have o2:=kp.obj (id:=0) (o:=.row 77 2 [.t (mch ps vs)]) rfl (by simp [H.push,H.empty])
 have o3:=kp.obj (id:=2) (o:=.row 57 9 [.t (prt 17 a b c vk vn s nm at_)]) rfl (by simp [H.push,H.empty])
 simp -implicitDefEqProofs (disch:=omega) [-List.getElem?_map,hg,q,hc',k60,md,o1,o2,o3]
theorem s35r (hk:x.k=18)(r:Int × Int × ByteArray)(e:Int)
  (hO:∀ h,h.marks=[]→h.objs 0=some (.row 77 2 [.t (mch ps vs)])→h.objs 3=some (.row 3 1 [.t (iv x.b)])→h.next=4→∃ h',callD (cx.at 35) (call cx prim) 64 [.t (mch ps vs),.t (iv x.a),.func (.func 62) [] [],.func (.func 61) [] [.ptr 0 0 0 1,.ptr 3 0 0 1]] h=some (.tup [.t (val3 r),.t (iv e)],h')∧Keeps h h') :
  ∃ h',call cx prim 35 [.t (mch ps vs),.t (iv i)] .empty=some (.tup [.t (val3 r),.t (iv e)],h'):=by
 rw [call_run (cx:=cx) rfl Tryz.func35 ok35 nd35 rfl (lbe rfl) rfl rfl];have hg:(ps.map prP)[i]?=some (prP x):=by rw [List.getElem?_map,hx]; rfl
 obtain ⟨k,a,b,c,vk,vn,s,nm,at_⟩:=x;simp only at hk;subst hk;obtain ⟨h2,q,kp⟩:=hO ((((H.empty.push (.row 77 2 [.t (mch ps vs)])).push (.row 26 3 [.t (vv 0 0 ⟨#[]⟩)])).push (.row 57 9 [.t (prt 18 a b c vk vn s nm at_)])).push (.row 3 1 [.t (iv b)])) rfl rfl rfl rfl;have o1:=kp.obj (id:=1) (o:=.row 26 3 [.t (vv 0 0 ⟨#[]⟩)]) rfl (by simp [H.push,H.empty])
 have o2:=kp.obj (id:=0) (o:=.row 77 2 [.t (mch ps vs)]) rfl (by simp [H.push,H.empty])
 have o3:=kp.obj (id:=2) (o:=.row 57 9 [.t (prt 18 a b c vk vn s nm at_)]) rfl (by simp [H.push,H.empty])
 simp -implicitDefEqProofs (disch:=omega) [-List.getElem?_map,hg,q,hc',k60,md,o1,o2,o3]
theorem s35i (hk:x.k=19)(r:Int × Int × ByteArray)(e:Int)
  (hO:∀ h,h.marks=[]→h.objs 0=some (.row 77 2 [.t (mch ps vs)])→h.objs 3=some (.row 3 1 [.t (iv x.b)])→h.objs 4=some (.row 3 1 [.t (iv x.c)])→h.next=5→∃ h',callD (cx.at 35) (call cx prim) 64 [.t (mch ps vs),.t (iv x.a),.func (.func 61) [] [.ptr 0 0 0 1,.ptr 3 0 0 1],.func (.func 61) [] [.ptr 0 0 0 1,.ptr 4 0 0 1]] h=some (.tup [.t (val3 r),.t (iv e)],h')∧Keeps h h') :
  ∃ h',call cx prim 35 [.t (mch ps vs),.t (iv i)] .empty=some (.tup [.t (val3 r),.t (iv e)],h'):=by
 rw [call_run (cx:=cx) rfl Tryz.func35 ok35 nd35 rfl (lbe rfl) rfl rfl];have hg:(ps.map prP)[i]?=some (prP x):=by rw [List.getElem?_map,hx]; rfl
 obtain ⟨k,a,b,c,vk,vn,s,nm,at_⟩:=x;simp only at hk;subst hk;obtain ⟨h2,q,kp⟩:=hO (((((H.empty.push (.row 77 2 [.t (mch ps vs)])).push (.row 26 3 [.t (vv 0 0 ⟨#[]⟩)])).push (.row 57 9 [.t (prt 19 a b c vk vn s nm at_)])).push (.row 3 1 [.t (iv b)])).push (.row 3 1 [.t (iv c)])) rfl rfl rfl rfl rfl;have o1:=kp.obj (id:=1) (o:=.row 26 3 [.t (vv 0 0 ⟨#[]⟩)]) rfl (by simp [H.push,H.empty])
 have o2:=kp.obj (id:=0) (o:=.row 77 2 [.t (mch ps vs)]) rfl (by simp [H.push,H.empty])
 have o3:=kp.obj (id:=2) (o:=.row 57 9 [.t (prt 19 a b c vk vn s nm at_)]) rfl (by simp [H.push,H.empty])
 simp -implicitDefEqProofs (disch:=omega) [-List.getElem?_map,hg,q,hc',k60,md,o1,o2,o3]
end
end Go.Proofs.YtaldobgfbkllfaaGreatDoor
