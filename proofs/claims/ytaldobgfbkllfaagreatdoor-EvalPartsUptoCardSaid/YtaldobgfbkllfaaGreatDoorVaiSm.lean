import Derived.Test.YtaldobgfbkllfaaGreatDoorVaiSl
set_option linter.unusedSimpArgs false
set_option linter.unusedVariables false
set_option linter.unusedSectionVars false
namespace Go.Proofs.YtaldobgfbkllfaaGreatDoor
open Vai P0
set_option maxHeartbeats 0
set_option maxRecDepth 100000
def WhyR:PR→Prop
 | .ok _ _ _=>True
 | .er _ w=>w=131∨w=134
theorem rd_why {L:Int}{mo:Mo}{ts:List Tk}{d:Nat}{out:List PT}{r:PR}(h:Rd L mo ts d out r):WhyR r:=by
 induction h with
 | un_er h1 h2 h3 ih=>exact ih
 | un_br h1 h2 h3 ih=>exact ih
 | len_er h1 h2 h3 h4 h5 ih=>exact ih
 | br_er h1 h2 h3 ih=>exact ih
 | lv_er h1 h2 ih=>exact ih
 | lv_ok h1 h2 h3 ih1 ih2=>exact ih2
 | ch_er h1 h2 h3 ih=>exact ih
 | ch_ok h1 h2 h3 h4 ih1 ih2=>exact ih2
 | fo_er h1 ih=>exact ih
 | fo_b h1 h2 h3 h4 ih1 ih2=>exact ih2
 | fo_c h1 h2 h3 h4 h5 h6 ih1 ih2 ih3=>exact ih3
 | _=>simp [WhyR]
theorem fau_why {r:PR}(h:WhyR r):(fauA r).2=0∧(∃ v out,r = .ok v [] out)∨(fauA r).2≠0:=by
 cases r with
 | er p w=>right; rcases h with h|h<;>simp [fauA,h]
 | ok v ts out =>
  cases ts with
  | nil=>exact .inl ⟨rfl,v,out,rfl⟩
  | cons t ts=>right; simp [fauA]
def ParseIs (s:ByteArray)(ds:List DV)(ps:List PT)(p w:Int):Prop :=
 ((lexS s).2.2≠0∧ps=[]∧p=(lexS s).2.1∧w=(lexS s).2.2) ∨
 ((lexS s).2.2=0∧∃ r,Rd s.size (.lv 6) (lexS s).1 0 [] r ∧
  (((fauA r).2≠0∧ps=[]∧p=(fauA r).1∧w=(fauA r).2) ∨
   ∃ v out,r = .ok v [] out∧((goodK out ds out.length=true∧ps=out∧p=0∧w=0)∨(BadAt out ds p w∧ps=[]))))
end Go.Proofs.YtaldobgfbkllfaaGreatDoor

namespace Go.Proofs.YtaldobgfbkllfaaGreatDoor
open Vai P0
variable [Gl]
set_option maxHeartbeats 0
set_option maxRecDepth 100000
theorem s20_lex {h:H}{s:ByteArray}{y:T}(hs:s.size≤1000000000)(hw:(lexS s).2.2≠0):∃ h',call cx prim 20 [.t (.str s),.t y] h=some (.tup [.t .nilSlice,.t (iv (lexS s).2.1),.t (iv (lexS s).2.2)],h'):=by
 obtain ⟨x,hx,q39⟩:=c39 (c:=20) s hs rfl;rw [call_run (cx:=cx) rfl Tryz.func20 ok20 nd20 rfl (lbe rfl) rfl rfl];have e0:=eqI_false hw;generalize (lexS s).2.1=A at *;generalize (lexS s).2.2=W at *;simp -implicitDefEqProofs (disch:=omega) [q39,e0]
theorem s20_par {h:H}(hm0:h.marks=[]){s:ByteArray}{y:T}{r:PR}(hs:s.size≤1000000000)(hw:(lexS s).2.2=0)(hr:Rd s.size (.lv 6) (lexS s).1 0 [] r)(hf:(fauA r).2≠0) :
  ∃ h',call cx prim 20 [.t (.str s),.t y] h=some (.tup [.t .nilSlice,.t (iv (fauA r).1),.t (iv (fauA r).2)],h'):=by
 obtain ⟨x,hx,q39⟩:=c39 (c:=20) s hs rfl;rw [hw] at q39;have hl:=lexS_len s;have hp:PX h.next (h.push (psO s x 0 (.t .nilSlice))) h.next s (lexS s).1 0 []:=⟨Nat.le_refl _,by simp,hm0,x,_,hx,by simp,.inl ⟨rfl,rfl⟩⟩
 obtain ⟨h2,q40,_⟩:=c40 (c:=20) hp hl hr rfl;rw [call_run (cx:=cx) rfl Tryz.func20 ok20 nd20 rfl (lbe rfl) rfl rfl];have e0:=eqI_false hf;generalize (lexS s).2.1=A at *;generalize (fauA r).1=A2 at *;generalize (fauA r).2=W at *;have hpush:psO s x 0 (.t .nilSlice) = .row 85 4 [.t (.agg [.str s,x,.int .i64 0,.nilSlice])]:=by
  rcases hx with ⟨rfl,_⟩|rfl<;>rfl
 rw [hpush] at q40;rcases hx with ⟨rfl,_⟩|rfl <;>
  simp -implicitDefEqProofs (disch:=omega) [q39,q40,e0]
theorem fa1 {h:H}{id:Nat}{a b:Int}(ho:h.objs id=some (.row 87 2 [.t (.agg [.int .i64 a,.int .i64 b])])):loadD Tryz.prog h 27 (.ptr id 0 1 1)=some (.t (.int .i64 b)):=by simp [ho]
theorem ff1 {h:H}{id:Nat}{a b:Int}(ho:h.objs id=some (.row 87 2 [.t (.agg [.int .i64 a,.int .i64 b])])):fieldAddrD Tryz.prog h 87 (.ptr id 0 0 1) 1=some (.ptr id 0 1 1):=by simp [ho]
theorem s20_all {h:H}(hm0:h.marks=[]){s:ByteArray}{y:T}{ds:List DV}{v:Nat}{out:List PT}(hs:s.size≤1000000000)(hy:Slice y (ds.map decT))(hlD:ds.length≤2000000)(hw:(lexS s).2.2=0)(hr:Rd s.size (.lv 6) (lexS s).1 0 [] (.ok v [] out))
   (hps:∀ x∈out,x.s.size≤1000000000) :
   ∃ d p w h',call cx prim 20 [.t (.str s),.t y] h=some (.tup [d,.t (iv p),.t (iv w)],h') ∧
     ((goodK out ds out.length=true∧p=0∧w=0∧∃ id,id<h'.next∧d = .row id 0 out.length out.length∧h'.objs id=some (.row 57 9 ((out.map prP).map .t))∧h.next≤id∧h'.marks=[]∧∀ j,j<h.next→h'.objs j=h.objs j)∨(BadAt out ds p w∧d = .t .nilSlice)):=by
 obtain ⟨x,hx,q39⟩:=c39 (c:=20) s hs rfl;rw [hw] at q39;have hl:=lexS_len s;have hsz:=rd_size hr;simp only [Size,List.length_nil] at hsz;obtain ⟨hwf,hv,_⟩:=rd_wf hr (fun i x hx=>by simp at hx)
 have hp:PX h.next (h.push (psO s x 0 (.t .nilSlice))) h.next s (lexS s).1 0 []:=⟨Nat.le_refl _,by simp,hm0,x,_,hx,by simp,.inl ⟨rfl,rfl⟩⟩
 obtain ⟨h2,q40,hpx⟩:=c40 (c:=20) hp hl hr rfl;obtain ⟨⟨_,g2,g3,x2,o,hx2,ho,h5⟩,_,fr2⟩:=hpx v out rfl;rcases h5 with ⟨_,e⟩|⟨id,i1,i2,rfl,i3⟩
 · rw [e] at hv; simp at hv
 simp only [fauA] at q40;have hpush:psO s x 0 (.t .nilSlice) = .row 85 4 [.t (.agg [.str s,x,.int .i64 0,.nilSlice])]:=by
   rcases hx with ⟨rfl,_⟩|rfl<;>rfl
 rw [hpush] at q40;have hc2:=Slice.cells hx2;have o1:∀ w,(h2.push w).objs h.next=some (psO s x2 0 (.row id 0 out.length out.length)):=fun w=>by simp only [push_objs,upd_ne _ _ (show h.next≠h2.next by omega)]; exact ho
 have o3:∀ w w' w'' w3,((((h2.push w).push w').push w'').set (h2.next+1+1) w3).objs h.next=some (psO s x2 0 (.row id 0 out.length out.length)):=fun w w' w'' w3=>by
   simp only [set_objs,push_objs,push_next,upd_ne _ _ (show h.next≠h2.next by omega),upd_ne _ _ (show h.next≠h2.next+1 by omega),upd_ne _ _ (show h.next≠h2.next+1+1 by omega)]; exact ho
 have a1:=fun w=>ps_3 (o1 w) hc2
 have a2:=fun w=>ps_nil (o1 w)
 have a3:=fun w=>ps_f3 (o1 w)
 have b1:=fun w w' w'' w3=>ps_3 (o3 w w' w'' w3) hc2
 have b2:=fun w w' w'' w3=>ps_nil (o3 w w' w'' w3)
 have b3:=fun w w' w'' w3=>ps_f3 (o3 w w' w'' w3)
 have c1:=fa1 (h:=h2.push (.row 87 2 [.t (.agg [.int .i64 0,.int .i64 0])])) (id:=h2.next) (a:=0) (b:=0) (by simp)
 have c2:=ff1 (h:=h2.push (.row 87 2 [.t (.agg [.int .i64 0,.int .i64 0])])) (id:=h2.next) (a:=0) (b:=0) (by simp)
 have i3':∀ w,(h2.push w).objs id=some (.row 57 9 ((out.map prP).map .t)):=fun w=>by simp only [push_objs,upd_ne _ _ (show id≠h2.next by omega)]; exact i3
 have mz:=fun h=>makeZ (n:=out.length) h (by omega)
 have i3'':∀ w w' w'' w3,((((h2.push w).push w').push w'').set (h2.next+1+1) w3).objs id=some (.row 57 9 ((out.map prP).map .t)):=fun w w' w'' w3=>by
   simp only [set_objs,push_objs,push_next,upd_ne _ _ (show id≠h2.next by omega),upd_ne _ _ (show id≠h2.next+1 by omega),upd_ne _ _ (show id≠h2.next+1+1 by omega)]; exact i3
 have hlo:((out.map prP).map D.t).length=out.length:=by simp
 have hfr0:∀ w w' w'' w3,∀ j,j<h.next→((((h2.push w).push w').push w'').set (h2.next+1+1) w3).objs j=h.objs j:=fun w w' w'' w3 j hj=>by
   simp only [set_objs,push_objs,push_next,upd_ne _ _ (show j≠h2.next by omega),upd_ne _ _ (show j≠h2.next+1 by omega),upd_ne _ _ (show j≠h2.next+1+1 by omega)]
   rw [fr2 j hj]; simp [show ¬ (j=h.next) by omega]
 rw [call_run (cx:=cx) rfl Tryz.func20 ok20 nd20 rfl (lbe rfl) rfl rfl];rcases hx with ⟨rfl,_⟩|rfl
 · simp -implicitDefEqProofs (disch:=omega) [-load_ptr,-nilCheckD,-fieldAddrD,-List.map_map,q39,q40,a1,a2,a3,b1,b2,b3,c1,c2,i3',i3'',hlo,push_set,mz,g3,D.parts]
   generalize hLp:loopω (LB cx prim 20 Tryz.f20 0) _=R;obtain ⟨x',⟨nn,env,h9⟩,rfl,rfl,hq⟩:=l20 (a:=h2.next+1) (o:=id) (c:=h2.next+1+1) (P:=h.next) (n:=h.next) (h0:=h) (s:=s) (tx:=x2) (ps:=out) (ds:=ds) hy hlD hps (by omega) hwf hLp rfl (by simp) (by simp) (by simp) (by simp) (by simp) (by simp)
     ⟨by simp [padK],by simpa using i3'' _ _ _ _,by simp [padK],o3 _ _ _ _,by omega,by omega,by omega,by simp<;>omega,by simp<;>omega,by simp<;>omega,by simp<;>omega,by simpa using g3⟩ (by omega) (by simpa using hfr0 _ _ _ _)
   simp only at hq;rcases hq with ⟨rfl,hg,e10,hK,hfr⟩|⟨rfl,p,w,hb,e4,e5,e6⟩
   · have z1:=ps_3 hK.oP hc2
     simp -implicitDefEqProofs (disch:=omega) [-load_ptr,-nilCheckD,-fieldAddrD,e10,ps_nil hK.oP,ps_f3 hK.oP,z1];exact ⟨_,_,_,_,⟨⟨rfl,rfl,rfl⟩,rfl⟩,.inl ⟨hg,rfl,rfl,id,hK.lo,rfl,by simpa using hK.oo,i1,hK.hm,hfr⟩⟩
   · simp -implicitDefEqProofs (disch:=omega) [e4,e5,e6]
     exact ⟨_,p,w,_,⟨⟨rfl,rfl,rfl⟩,rfl⟩,.inr ⟨hb,rfl⟩⟩
 · simp -implicitDefEqProofs (disch:=omega) [-load_ptr,-nilCheckD,-fieldAddrD,-List.map_map,q39,q40,a1,a2,a3,b1,b2,b3,c1,c2,i3',i3'',hlo,push_set,mz,g3,D.parts]
   generalize hLp:loopω (LB cx prim 20 Tryz.f20 0) _=R;obtain ⟨x',⟨nn,env,h9⟩,rfl,rfl,hq⟩:=l20 (a:=h2.next+1) (o:=id) (c:=h2.next+1+1) (P:=h.next) (n:=h.next) (h0:=h) (s:=s) (tx:=x2) (ps:=out) (ds:=ds) hy hlD hps (by omega) hwf hLp rfl (by simp) (by simp) (by simp) (by simp) (by simp) (by simp)
     ⟨by simp [padK],by simpa using i3'' _ _ _ _,by simp [padK],o3 _ _ _ _,by omega,by omega,by omega,by simp<;>omega,by simp<;>omega,by simp<;>omega,by simp<;>omega,by simpa using g3⟩ (by omega) (by simpa using hfr0 _ _ _ _)
   simp only at hq;rcases hq with ⟨rfl,hg,e10,hK,hfr⟩|⟨rfl,p,w,hb,e4,e5,e6⟩
   · have z1:=ps_3 hK.oP hc2
     simp -implicitDefEqProofs (disch:=omega) [-load_ptr,-nilCheckD,-fieldAddrD,e10,ps_nil hK.oP,ps_f3 hK.oP,z1];exact ⟨_,_,_,_,⟨⟨rfl,rfl,rfl⟩,rfl⟩,.inl ⟨hg,rfl,rfl,id,hK.lo,rfl,by simpa using hK.oo,i1,hK.hm,hfr⟩⟩
   · simp -implicitDefEqProofs (disch:=omega) [e4,e5,e6]
     exact ⟨_,p,w,_,⟨⟨rfl,rfl,rfl⟩,rfl⟩,.inr ⟨hb,rfl⟩⟩
def SmallP (s:ByteArray):Prop:=∀ v out,Rd s.size (.lv 6) (lexS s).1 0 [] (.ok v [] out)→∀ x∈out,x.s.size≤1000000000
theorem c20 {c:FuncId}{s:ByteArray}{y:T}{ds:List DV}(hs:s.size≤1000000000)(hy:Slice y (ds.map decT))(hlD:ds.length≤2000000)(hsm:SmallP s)(hm:md c 20 = .pure) :
   ∃ ps p w x,ParseIs s ds ps p w∧Slice x (ps.map prP)∧∀ h,callD (cx.at c) (call cx prim) 20 [.t (.str s),.t y] h=some (.tup [.t x,.t (iv p),.t (iv w)],h):=by
 by_cases hw:(lexS s).2.2=0
 · obtain ⟨r,hr⟩:=rd_total s.size ((lexS s).1.length*10+8) (.lv 6) (lexS s).1 0 [] (by simp only [rank]; omega) (by simp [Good])
   rcases fau_why (rd_why hr) with ⟨h0,v,out,rfl⟩|h0
   · obtain ⟨d,p,w,h',q,k⟩:=s20_all (h:=.empty) rfl hs hy hlD hw hr (hsm v out hr)
     rcases k with ⟨hg,rfl,rfl,id,k1,rfl,k3,_⟩|⟨hb,rfl⟩
     · refine ⟨out,0,0,.slice (out.map prP),.inr ⟨hw,_,hr,.inr ⟨v,out,rfl,.inl ⟨hg,rfl,rfl,rfl⟩⟩⟩,.inr rfl,fun h=>pureT cb20 hm q ?_ rfl⟩
       have hsn:Vai.snap h' (.row id 0 out.length out.length)=some (.slice (out.map prP)):=row_snap k3 (by simp)
       simp only [snapOut,allM,hsn,snap_t]; rfl
     · exact ⟨[],p,w,.nilSlice,.inr ⟨hw,_,hr,.inr ⟨v,out,rfl,.inr ⟨hb,rfl⟩⟩⟩,.inl ⟨rfl,rfl⟩,fun h=>pureT cb20 hm q rfl rfl⟩
   · obtain ⟨h',q⟩:=s20_par (h:=.empty) rfl (y:=y) hs hw hr h0
     exact ⟨[],_,_,.nilSlice,.inr ⟨hw,r,hr,.inl ⟨h0,rfl,rfl,rfl⟩⟩,.inl ⟨rfl,rfl⟩,fun h=>pureT cb20 hm q rfl rfl⟩
 · obtain ⟨h',q⟩:=s20_lex (h:=.empty) (y:=y) hs hw
   exact ⟨[],_,_,.nilSlice,.inl ⟨hw,rfl,rfl,rfl⟩,.inl ⟨rfl,rfl⟩,fun h=>pureT cb20 hm q rfl rfl⟩
end Go.Proofs.YtaldobgfbkllfaaGreatDoor

namespace Go.Proofs.YtaldobgfbkllfaaGreatDoor
open Vai P0
set_option maxHeartbeats 0
def TkS (t:Tk):Prop:=t.kind=2→t.text.size≤64
theorem tok1_small {s:ByteArray}{i:Nat}{t:Tk}{j:Nat}(h:tok1 s i = .ok (t,j)):TkS t:=by
 unfold tok1 at h;split at h
 · split at h
   · cases h; intro e; cases e
   · cases h
 split at h
 · cases h; intro e; cases e
 split at h
 · split at h
   · split at h
     · cases h
     · rename_i hl; cases h; intro _; simp only [ByteArray.size,List.size_toArray]; omega
   · cases h
 split at h
 · cases h
 · cases h; intro e; cases e
theorem toks_small {s:ByteArray}{i:Nat}{l:List Tk}:∀ {m},toks s i l = .ok m→(∀ t∈l,TkS t)→∀ t∈m,TkS t:=by
 fun_induction toks s i l with
 | case1 i l h=>intro m e hl; cases e; exact hl
 | case2=>intro m e hl; cases e
 | case3 i l h1 t j ht h2 ih =>
  intro m e hl;refine ih e fun x hx=>?_
  rcases List.mem_append.1 hx with hx|hx
  · exact hl x hx
  · simp at hx; subst hx; exact tok1_small ht
 | case4=>intro m e hl; cases e; exact hl
theorem lexS_small (s:ByteArray):∀ t∈(lexS s).1,TkS t:=by
 unfold lexS;split
 · simp
 split
 · simp
 split
 · rename_i l h; exact toks_small h (by simp)
 · simp
theorem leaf_small {t:Tk}{p:PT}(ht:TkS t)(h:leafA t=some p):p.s.size≤64:=by
 unfold leafA at h;split at h
 · cases h; simp [noText,ByteArray.size]
 split at h
 · rename_i h2; cases h; exact ht h2
 split at h
 · cases h
 split at h
 · cases h; simp [noText,ByteArray.size]
 split at h
 · cases h; simp [noText,ByteArray.size]
 split at h
 · cases h
 · cases h; simp [noText,ByteArray.size]
def SmR (ts:List Tk)(out:List PT):PR→Prop
 | .ok _ ts2 out2=>(∀ t∈ts,TkS t)→(∀ x∈out,x.s.size≤64)→(∀ t∈ts2,TkS t)∧∀ x∈out2,x.s.size≤64
 | .er _ _=>True
theorem small_nod {out:List PT}{op a b c p:Int}(h:∀ x∈out,x.s.size≤64):∀ x∈out ++ [nod op a b c p],x.s.size≤64:=fun x hx=>by
 rcases List.mem_append.1 hx with hx|hx
 · exact h x hx
 · simp at hx; subst hx; simp [nod,noText,ByteArray.size]
theorem rd_small {L:Int}{mo:Mo}{ts:List Tk}{d:Nat}{out:List PT}{r:PR}(h:Rd L mo ts d out r):SmR ts out r:=by
 induction h with
 | un_ok h1 h2 h3 ih=>exact fun a b=>have k:=ih (fun t ht=>a t (.tail _ ht)) b; ⟨k.1,small_nod k.2⟩
 | un_leaf h1 h2=>exact fun a b=>⟨fun t ht=>a t (.tail _ ht),fun x hx=>by
  rcases List.mem_append.1 hx with hx|hx
  · exact b x hx
  · simp at hx; subst hx; exact leaf_small (a _ (.head _)) h2⟩
 | un_br h1 h2 h3 ih=>rename_i r; cases r<;>exact ih
 | len_ok h1 h2 h3 h4 h5 ih=>exact fun a b=>have k:=ih (fun t ht=>a t (.tail _ ht)) b; ⟨k.1,small_nod k.2⟩
 | br_ok h1 h2 h3 h4 ih=>exact fun a b=>have k:=ih (fun t ht=>a t (.tail _ ht)) b; ⟨fun t ht=>k.1 t (.tail _ ht),k.2⟩
 | lv_ok h1 h2 h3 ih1 ih2=>rename_i r; cases r<;>first|trivial|exact fun a b=>have k:=ih1 a b; ih2 k.1 k.2
 | ch_end h1=>exact fun a b=>⟨a,b⟩
 | ch_ok h1 h2 h3 h4 ih1 ih2=>rename_i r _ _ _; cases r<;>first|trivial|exact fun a b=>have k:=ih1 (fun t ht=>a t (.tail _ ht)) b; ih2 k.1 (small_nod k.2)
 | fo_no h1 h2 ih=>exact ih
 | fo_ok h1 h2 h3 h4 h5 h6 ih1 ih2 ih3=>exact fun a b =>
  have k:=ih1 a b;have k2:=ih2 (fun t ht=>k.1 t (.tail _ ht)) k.2
  have k3:=ih3 (fun t ht=>k2.1 t (.tail _ ht)) k2.2
  ⟨k3.1,small_nod k3.2⟩
 | _=>trivial
theorem smallP (s:ByteArray):SmallP s:=fun v out hr x hx=>by
 have:=(rd_small hr (lexS_small s) (by simp)).2 x hx
 omega
end Go.Proofs.YtaldobgfbkllfaaGreatDoor

namespace Go.Proofs.YtaldobgfbkllfaaGreatDoor
open Vai
variable [Gl]
set_option maxHeartbeats 0
set_option maxRecDepth 100000
def usesN (k:Int):Int:=if 3≤k∧k≤5 then 1 else if 6≤k∧k≤18 then 2 else if k=19 then 3 else 0
theorem c67 {c:FuncId}(k:Int)(h:H)(hm:md c 67 = .pure):callD (cx.at c) (call cx prim) 67 [.t (iv k)] h=some (.t (iv (usesN k)),h):=by
 have:∃ h',call cx prim 67 [.t (iv k)] .empty=some (.t (iv (usesN k)),h'):=by
  rw [call_run (cx:=cx) rfl Tryz.func67 ok67 nd67 rfl (lbe rfl) rfl rfl];unfold usesN;by_cases h1:3≤k
  · by_cases h2:k≤5
    · have:¬ 6≤k:=by omega
      simp -implicitDefEqProofs (disch:=omega) [h1,h2]
    · by_cases h3:k≤18
      · have:6≤k:=by omega
        simp -implicitDefEqProofs (disch:=omega) [h1,h2,h3,this]
      · by_cases h4:k=19
        · simp -implicitDefEqProofs (disch:=omega) [h4]
        · have:6≤k:=by omega
          simp -implicitDefEqProofs (disch:=omega) [h1,h2,h3,h4,this]
  · have h5:¬ 6≤k:=by omega
    have h6:¬ k=19:=by omega
    simp -implicitDefEqProofs (disch:=omega) [h1,h5,h6]
 obtain ⟨h',q⟩:=this;exact pureT cb67 hm q rfl rfl
theorem s97 {y:T}{ds:List DV}{nm:ByteArray}(hy:Slice y (ds.map decT))(hl:ds.length≤2000000):∃ h',call cx prim 97 [.t y,.t (.str nm)] .empty=some (.t (iv (kind3 (declK ds nm))),h'):=by
 rw [call_run (cx:=cx) rfl Tryz.func97 ok97 nd97 rfl (lbe rfl) rfl rfl];have hlx:=fun hh=>hy.len (P:=Tryz.prog) (t:=32) tk32 hh
 rw [List.length_map] at hlx;simp -implicitDefEqProofs (disch:=omega) [];generalize hLp:loopω _ _=L;obtain ⟨x',⟨nn,env,h2⟩,rfl,rfl,hq⟩:=loop_uses hLp ds.length
   (fun k st=>st.n=38∧st.env 0 = .t y∧st.env 1 = .t (.str nm)∧st.env 5 = .t (.int .i64 k)∧(ds.drop k).find? (fun v=>eqS v.1 nm)=declF ds nm)
   (fun x' st=>st.n=38∧((x' = .exit 0∧declF ds nm=none)∨(x' = .ret∧st.env 4 = .t (iv (kind3 (declK ds nm))))))
   (by refine ⟨rfl,?_⟩; simp [declF]) (by
   rintro k ⟨nn,env,h2⟩ hk ⟨rfl,e0,e1,e5,hb⟩;simp only at e0 e1 e5;rw [LB_run nd97 rfl];by_cases hk':k<ds.length
   · obtain ⟨v,hv⟩:∃ v,ds[k]?=some v:=⟨ds[k],by simp [hk']⟩
     have hxe:y = .slice (ds.map decT):=hy.eq_of_ne (by intro e; have:=congrArg List.length e; simp at this; subst this; simp at hk')
     subst hxe;have hg:(ds.map decT)[k]?=some (decT v):=by rw [List.getElem?_map,hv]; rfl
     have c1:(k:Int)<ds.length:=by omega
     rw [findD_drop hv] at hb
     cases he:eqS v.1 nm with
     | true =>
      rw [he,if_pos rfl] at hb;have hd:declK ds nm=v.2:=by unfold declK; rw [←hb]
      rw [hd];unfold kind3;by_cases h1:1≤v.2
      · by_cases h3:v.2≤3
        · rw [if_pos ⟨h1,h3⟩]
          simp -implicitDefEqProofs (disch:=omega) [-List.getElem?_map,e0,e1,e5,hg,hlx,he,Wp_some]
        · rw [if_neg (by omega)]
          simp -implicitDefEqProofs (disch:=omega) [-List.getElem?_map,e0,e1,e5,hg,hlx,he,Wp_some]
      · rw [if_neg (by omega)]
        simp -implicitDefEqProofs (disch:=omega) [-List.getElem?_map,e0,e1,e5,hg,hlx,he,Wp_some]
     | false =>
      rw [he,if_neg (by simp)] at hb
      simp -implicitDefEqProofs (disch:=omega) [-List.getElem?_map,e0,e1,e5,hg,hlx,he,Wp_some];exact ⟨hk',hb⟩
   · obtain rfl:k=ds.length:=by omega
     rw [List.drop_length] at hb;simp -implicitDefEqProofs (disch:=omega) [e0,e1,e5,hlx,Wp_some];exact hb.symm)
 rcases hq with ⟨rfl,hb⟩|⟨rfl,e4⟩
 · have hd:kind3 (declK ds nm)=0:=by unfold declK; rw [hb]; rfl
   rw [hd];simp -implicitDefEqProofs (disch:=omega) []
 · simp only at e4
   simp -implicitDefEqProofs (disch:=omega) [e4]
theorem c97 {c:FuncId}{y:T}{ds:List DV}{nm:ByteArray}(hy:Slice y (ds.map decT))(hl:ds.length≤2000000)(h:H)(hm:md c 97 = .pure):callD (cx.at c) (call cx prim) 97 [.t y,.t (.str nm)] h=some (.t (iv (kind3 (declK ds nm))),h):=by
 obtain ⟨h',q⟩:=s97 (nm:=nm) hy hl;exact pureT cb97 hm q rfl rfl
theorem st57 (h:H)(x:PT):storeD Tryz.prog (h.push (.row 57 9 [.t (.agg [.int .i64 0,.int .i64 0,.int .i64 0,.int .i64 0,.int .i64 0,.int .i64 0,.str ⟨#[]⟩,.str ⟨#[]⟩,.int .i64 0])])) 57 (.ptr h.next 0 0 1) (.t (prP x))=some (h.push (.row 57 9 [.t (prP x)])):=by
 simp -implicitDefEqProofs (disch:=omega) [push_set]
theorem padK_set0 {l:List Int}{n:Nat}(h:l.length<n):(padK l n).set l.length 0=padK l n:=by
 rw [padK_set h];unfold padK;have:n-l.length=(n-(l ++ [0]).length)+1:=by simp; omega
 rw [this,List.replicate_succ];simp
structure KR (ks:List Int) (h:H):Prop where
 o:h.objs 0=some (.row 3 1 ((ks.map iv).map .t))
 l:0<h.next
 m:h.marks=[]
theorem KR.push {ks:List Int}{h:H}(k:KR ks h)(o:AObj):KR ks (h.push o) where
 o:=by simp only [H.push,upd]; rw [if_neg (by have:=k.l; omega)]; exact k.o
 l:=by simp [H.push]
 m:=k.m
theorem KR.set {ks ks':List Int}{h:H}(k:KR ks h):KR ks' (h.set 0 (.row 3 1 ((ks'.map iv).map .t))) where
 o:=by simp [H.set,upd]
 l:=k.l
 m:=k.m
structure P53 (ps:List PT) (y:T) (ks:List Int) (k:Nat) (s:St):Prop where
 n:s.n=183
 e0:s.env 0 = .t (.slice (ps.map prP))
 e1:s.env 1 = .t y
 e5:s.env 5 = .row 0 0 ps.length ps.length
 e6:s.env 6 = .t (.int .i64 k)
 h:KR ks s.h
section
variable {ps:List PT}{y:T}{ks:List Int}{k:Nat}{x:PT}{ds:List DV}{env:Nat→D}{h:H}(hk':k<ps.length)(hln:ps.length≤256)(hx:ps[k]?=some x)(hks:ks.length=ps.length)
 (e0:env 0 = .t (.slice (ps.map prP))) (e1:env 1 = .t y) (e5:env 5 = .row 0 0 ps.length ps.length) (e6:env 6 = .t (.int .i64 k)) (hK:KR ks h)
include hk' hln hx hks e0 e1 e5 e6 hK
abbrev F53 (ps:List PT)(x:PT)(k:Nat)(ks:List Int)(E:List D)(h:H):Prop:=(ps.map prP)[k]?=some (prP x)∧(∀ k h,callD (cx.at 53) (call cx prim) 67 [.t (iv k)] h=some (.t (iv (usesN k)),h)) ∧
 storeD Tryz.prog (h.push (.row 57 9 [.t (.agg [.int .i64 0,.int .i64 0,.int .i64 0,.int .i64 0,.int .i64 0,.int .i64 0,.str ⟨#[]⟩,.str ⟨#[]⟩,.int .i64 0])])) 57 (.ptr h.next 0 0 1) (.t (prP x))=some (h.push (.row 57 9 [.t (prP x)])) ∧
 (∀ v:Int,storeD Tryz.prog (h.push (.row 57 9 [.t (prP x)])) 3 (.ptr 0 k 0 ps.length) (.t (iv v))=some ((h.push (.row 57 9 [.t (prP x)])).set 0 (.row 3 1 (((ks.set k v).map iv).map .t)))) ∧
 h.objs 0=some (.row 3 1 E)∧E.length=ps.length∧((0=h.next)=False)
theorem pre53:∃ E,F53 ps x k ks E h∧(∀ j:Int,0≤j→j<k→E[j.toNat]?=some (D.t (iv (getK ks j)))):=by
 have hK1:=hK.push (.row 57 9 [.t (prP x)]);refine ⟨(ks.map iv).map D.t,⟨by rw [List.getElem?_map,hx]; rfl,fun k h=>c67 k h rfl,st57 h x,fun v=>?_,hK.o,by simp [hks],ne0 hK.l⟩,fun j h0 h1=>?_⟩
 · have:=P0.store_iv hK1.o (i:=k) (by omega) v
   rwa [hks] at this
 · rw [List.getElem?_map,List.getElem?_map,getK_some h0 (by omega)]; rfl
theorem r53_3 (hk:x.k=3)(gA:0≤x.a∧x.a<k)(h0:ks.set k 0=ks) :
  Wp (LB cx prim 53 Tryz.f53 0 ⟨183,env,h⟩) fun x' st'=>x' = .norm∧P53 ps y (ks.set k (if eqI (getK ks x.a) 1 then 1 else 0)) (k+1) st':=by
 rw [LB_run nd53 rfl];have c1:(k:Int)<ps.length:=by omega
 have hK1:=hK.push (.row 57 9 [.t (prP x)]);have hK2:∀ v:Int,KR (ks.set k v) ((h.push (.row 57 9 [.t (prP x)])).set 0 (.row 3 1 (((ks.set k v).map iv).map .t))):=fun v=>hK1.set
 obtain ⟨E,fq,gE⟩:=pre53 hk' hln hx hks e0 e1 e5 e6 hK;have gEA:=gE x.a gA.1 gA.2;have gLA:x.a.toNat<ps.length:=by omega
 clear gE;generalize getK ks x.a=A at gEA ⊢;obtain ⟨xk,xa,xb,xc,xvk,xvn,xs,xnm,xat⟩:=x;simp only at hk gA gEA gLA ⊢;subst hk
 cases b0:eqI A 1 with
 | false =>
  simp -implicitDefEqProofs (disch:=omega) [-List.getElem?_map,-List.map_map,-List.map_set,-storeD,-getElem?_pos,e0,e1,e5,e6,fq,usesN,hk',gA,gEA,gLA,b0,Wp_some];rw [h0]; refine ⟨rfl,?_,?_,?_,?_,hK1⟩<;>simp [e0,e1,e5]
 | true =>
  simp -implicitDefEqProofs (disch:=omega) [-List.getElem?_map,-List.map_map,-List.map_set,-storeD,-getElem?_pos,e0,e1,e5,e6,fq,usesN,hk',gA,gEA,gLA,b0,Wp_some];refine ⟨rfl,?_,?_,?_,?_,hK2 _⟩<;>simp [e0,e1,e5]
theorem r53_4 (hk:x.k=4)(gA:0≤x.a∧x.a<k)(h0:ks.set k 0=ks) :
  Wp (LB cx prim 53 Tryz.f53 0 ⟨183,env,h⟩) fun x' st'=>x' = .norm∧P53 ps y (ks.set k (if eqI (getK ks x.a) 2 then 2 else 0)) (k+1) st':=by
 rw [LB_run nd53 rfl];have c1:(k:Int)<ps.length:=by omega
 have hK1:=hK.push (.row 57 9 [.t (prP x)]);have hK2:∀ v:Int,KR (ks.set k v) ((h.push (.row 57 9 [.t (prP x)])).set 0 (.row 3 1 (((ks.set k v).map iv).map .t))):=fun v=>hK1.set
 obtain ⟨E,fq,gE⟩:=pre53 hk' hln hx hks e0 e1 e5 e6 hK;have gEA:=gE x.a gA.1 gA.2;have gLA:x.a.toNat<ps.length:=by omega
 clear gE;generalize getK ks x.a=A at gEA ⊢;obtain ⟨xk,xa,xb,xc,xvk,xvn,xs,xnm,xat⟩:=x;simp only at hk gA gEA gLA ⊢;subst hk
 cases b0:eqI A 2 with
 | false =>
  simp -implicitDefEqProofs (disch:=omega) [-List.getElem?_map,-List.map_map,-List.map_set,-storeD,-getElem?_pos,e0,e1,e5,e6,fq,usesN,hk',gA,gEA,gLA,b0,Wp_some];rw [h0]; refine ⟨rfl,?_,?_,?_,?_,hK1⟩<;>simp [e0,e1,e5]
 | true =>
  simp -implicitDefEqProofs (disch:=omega) [-List.getElem?_map,-List.map_map,-List.map_set,-storeD,-getElem?_pos,e0,e1,e5,e6,fq,usesN,hk',gA,gEA,gLA,b0,Wp_some];refine ⟨rfl,?_,?_,?_,?_,hK2 _⟩<;>simp [e0,e1,e5]
theorem r53_5 (hk:x.k=5)(gA:0≤x.a∧x.a<k)(h0:ks.set k 0=ks) :
  Wp (LB cx prim 53 Tryz.f53 0 ⟨183,env,h⟩) fun x' st'=>x' = .norm∧P53 ps y (ks.set k (if eqI (getK ks x.a) 3 then 1 else 0)) (k+1) st':=by
 rw [LB_run nd53 rfl];have c1:(k:Int)<ps.length:=by omega
 have hK1:=hK.push (.row 57 9 [.t (prP x)]);have hK2:∀ v:Int,KR (ks.set k v) ((h.push (.row 57 9 [.t (prP x)])).set 0 (.row 3 1 (((ks.set k v).map iv).map .t))):=fun v=>hK1.set
 obtain ⟨E,fq,gE⟩:=pre53 hk' hln hx hks e0 e1 e5 e6 hK;have gEA:=gE x.a gA.1 gA.2;have gLA:x.a.toNat<ps.length:=by omega
 clear gE;generalize getK ks x.a=A at gEA ⊢;obtain ⟨xk,xa,xb,xc,xvk,xvn,xs,xnm,xat⟩:=x;simp only at hk gA gEA gLA ⊢;subst hk
 cases b0:eqI A 3 with
 | false =>
  simp -implicitDefEqProofs (disch:=omega) [-List.getElem?_map,-List.map_map,-List.map_set,-storeD,-getElem?_pos,e0,e1,e5,e6,fq,usesN,hk',gA,gEA,gLA,b0,Wp_some];rw [h0]; refine ⟨rfl,?_,?_,?_,?_,hK1⟩<;>simp [e0,e1,e5]
 | true =>
  simp -implicitDefEqProofs (disch:=omega) [-List.getElem?_map,-List.map_map,-List.map_set,-storeD,-getElem?_pos,e0,e1,e5,e6,fq,usesN,hk',gA,gEA,gLA,b0,Wp_some];refine ⟨rfl,?_,?_,?_,?_,hK2 _⟩<;>simp [e0,e1,e5]
theorem r53_6 (hk:x.k=6∨x.k=7∨x.k=8∨x.k=10)(gA:0≤x.a∧x.a<k)(gB:0≤x.b∧x.b<k)(h0:ks.set k 0=ks) :
  Wp (LB cx prim 53 Tryz.f53 0 ⟨183,env,h⟩) fun x' st'=>x' = .norm∧P53 ps y (ks.set k (if eqI (getK ks x.a) 1&&eqI (getK ks x.b) 1 then 1 else 0)) (k+1) st':=by
 rw [LB_run nd53 rfl];have c1:(k:Int)<ps.length:=by omega
 have hK1:=hK.push (.row 57 9 [.t (prP x)]);have hK2:∀ v:Int,KR (ks.set k v) ((h.push (.row 57 9 [.t (prP x)])).set 0 (.row 3 1 (((ks.set k v).map iv).map .t))):=fun v=>hK1.set
 obtain ⟨E,fq,gE⟩:=pre53 hk' hln hx hks e0 e1 e5 e6 hK;have gEA:=gE x.a gA.1 gA.2;have gLA:x.a.toNat<ps.length:=by omega
 have gEB:=gE x.b gB.1 gB.2;have gLB:x.b.toNat<ps.length:=by omega
 clear gE;generalize getK ks x.a=A at gEA ⊢;generalize getK ks x.b=B at gEB ⊢;obtain ⟨xk,xa,xb,xc,xvk,xvn,xs,xnm,xat⟩:=x;simp only at hk gA gEA gLA gB gEB gLB ⊢;rcases hk with rfl|rfl|rfl|rfl
 all_goals
  cases b0:eqI A 1 with
  | false =>
   cases b1:eqI B 1 with
   | false =>
    simp -implicitDefEqProofs (disch:=omega) [-List.getElem?_map,-List.map_map,-List.map_set,-storeD,-getElem?_pos,e0,e1,e5,e6,fq,usesN,hk',gA,gEA,gLA,gB,gEB,gLB,b0,b1,Wp_some];rw [h0]; refine ⟨rfl,?_,?_,?_,?_,hK1⟩<;>simp [e0,e1,e5]
   | true =>
    simp -implicitDefEqProofs (disch:=omega) [-List.getElem?_map,-List.map_map,-List.map_set,-storeD,-getElem?_pos,e0,e1,e5,e6,fq,usesN,hk',gA,gEA,gLA,gB,gEB,gLB,b0,b1,Wp_some];rw [h0]; refine ⟨rfl,?_,?_,?_,?_,hK1⟩<;>simp [e0,e1,e5]
  | true =>
   cases b1:eqI B 1 with
   | false =>
    simp -implicitDefEqProofs (disch:=omega) [-List.getElem?_map,-List.map_map,-List.map_set,-storeD,-getElem?_pos,e0,e1,e5,e6,fq,usesN,hk',gA,gEA,gLA,gB,gEB,gLB,b0,b1,Wp_some];rw [h0]; refine ⟨rfl,?_,?_,?_,?_,hK1⟩<;>simp [e0,e1,e5]
   | true =>
    simp -implicitDefEqProofs (disch:=omega) [-List.getElem?_map,-List.map_map,-List.map_set,-storeD,-getElem?_pos,e0,e1,e5,e6,fq,usesN,hk',gA,gEA,gLA,gB,gEB,gLB,b0,b1,Wp_some];refine ⟨rfl,?_,?_,?_,?_,hK2 _⟩<;>simp [e0,e1,e5]
theorem r53_9 (hk:x.k=9)(gA:0≤x.a∧x.a<k)(gB:0≤x.b∧x.b<k)(h0:ks.set k 0=ks) :
  Wp (LB cx prim 53 Tryz.f53 0 ⟨183,env,h⟩) fun x' st'=>x' = .norm∧P53 ps y (ks.set k (if eqI (getK ks x.a) (getK ks x.b)&&(eqI (getK ks x.a) 1||eqI (getK ks x.a) 3) then getK ks x.a else 0)) (k+1) st':=by
 rw [LB_run nd53 rfl];have c1:(k:Int)<ps.length:=by omega
 have hK1:=hK.push (.row 57 9 [.t (prP x)]);have hK2:∀ v:Int,KR (ks.set k v) ((h.push (.row 57 9 [.t (prP x)])).set 0 (.row 3 1 (((ks.set k v).map iv).map .t))):=fun v=>hK1.set
 obtain ⟨E,fq,gE⟩:=pre53 hk' hln hx hks e0 e1 e5 e6 hK;have gEA:=gE x.a gA.1 gA.2;have gLA:x.a.toNat<ps.length:=by omega
 have gEB:=gE x.b gB.1 gB.2;have gLB:x.b.toNat<ps.length:=by omega
 clear gE;generalize getK ks x.a=A at gEA ⊢;generalize getK ks x.b=B at gEB ⊢;obtain ⟨xk,xa,xb,xc,xvk,xvn,xs,xnm,xat⟩:=x;simp only at hk gA gEA gLA gB gEB gLB ⊢;subst hk
 cases b0:eqI A B with
 | false =>
  cases b1:eqI A 1 with
  | false =>
   cases b2:eqI A 3 with
   | false =>
    simp -implicitDefEqProofs (disch:=omega) [-List.getElem?_map,-List.map_map,-List.map_set,-storeD,-getElem?_pos,e0,e1,e5,e6,fq,usesN,hk',gA,gEA,gLA,gB,gEB,gLB,b0,b1,b2,Wp_some];rw [h0]; refine ⟨rfl,?_,?_,?_,?_,hK1⟩<;>simp [e0,e1,e5]
   | true =>
    simp -implicitDefEqProofs (disch:=omega) [-List.getElem?_map,-List.map_map,-List.map_set,-storeD,-getElem?_pos,e0,e1,e5,e6,fq,usesN,hk',gA,gEA,gLA,gB,gEB,gLB,b0,b1,b2,Wp_some];rw [h0]; refine ⟨rfl,?_,?_,?_,?_,hK1⟩<;>simp [e0,e1,e5]
  | true =>
   cases b2:eqI A 3 with
   | false =>
    simp -implicitDefEqProofs (disch:=omega) [-List.getElem?_map,-List.map_map,-List.map_set,-storeD,-getElem?_pos,e0,e1,e5,e6,fq,usesN,hk',gA,gEA,gLA,gB,gEB,gLB,b0,b1,b2,Wp_some];rw [h0]; refine ⟨rfl,?_,?_,?_,?_,hK1⟩<;>simp [e0,e1,e5]
   | true =>
    simp -implicitDefEqProofs (disch:=omega) [-List.getElem?_map,-List.map_map,-List.map_set,-storeD,-getElem?_pos,e0,e1,e5,e6,fq,usesN,hk',gA,gEA,gLA,gB,gEB,gLB,b0,b1,b2,Wp_some];rw [h0]; refine ⟨rfl,?_,?_,?_,?_,hK1⟩<;>simp [e0,e1,e5]
 | true =>
  cases b1:eqI A 1 with
  | false =>
   cases b2:eqI A 3 with
   | false =>
    simp -implicitDefEqProofs (disch:=omega) [-List.getElem?_map,-List.map_map,-List.map_set,-storeD,-getElem?_pos,e0,e1,e5,e6,fq,usesN,hk',gA,gEA,gLA,gB,gEB,gLB,b0,b1,b2,Wp_some];rw [h0]; refine ⟨rfl,?_,?_,?_,?_,hK1⟩<;>simp [e0,e1,e5]
   | true =>
    simp -implicitDefEqProofs (disch:=omega) [-List.getElem?_map,-List.map_map,-List.map_set,-storeD,-getElem?_pos,e0,e1,e5,e6,fq,usesN,hk',gA,gEA,gLA,gB,gEB,gLB,b0,b1,b2,Wp_some];refine ⟨rfl,?_,?_,?_,?_,hK2 _⟩<;>simp [e0,e1,e5]
  | true =>
   cases b2:eqI A 3 with
   | false =>
    simp -implicitDefEqProofs (disch:=omega) [-List.getElem?_map,-List.map_map,-List.map_set,-storeD,-getElem?_pos,e0,e1,e5,e6,fq,usesN,hk',gA,gEA,gLA,gB,gEB,gLB,b0,b1,b2,Wp_some];refine ⟨rfl,?_,?_,?_,?_,hK2 _⟩<;>simp [e0,e1,e5]
   | true =>
    simp -implicitDefEqProofs (disch:=omega) [-List.getElem?_map,-List.map_map,-List.map_set,-storeD,-getElem?_pos,e0,e1,e5,e6,fq,usesN,hk',gA,gEA,gLA,gB,gEB,gLB,b0,b1,b2,Wp_some];refine ⟨rfl,?_,?_,?_,?_,hK2 _⟩<;>simp [e0,e1,e5]
theorem r53_11 (hk:x.k=11∨x.k=12)(gA:0≤x.a∧x.a<k)(gB:0≤x.b∧x.b<k)(h0:ks.set k 0=ks) :
  Wp (LB cx prim 53 Tryz.f53 0 ⟨183,env,h⟩) fun x' st'=>x' = .norm∧P53 ps y (ks.set k (if eqI (getK ks x.a) (getK ks x.b)&&ltI 0 (getK ks x.a) then 2 else 0)) (k+1) st':=by
 rw [LB_run nd53 rfl];have c1:(k:Int)<ps.length:=by omega
 have hK1:=hK.push (.row 57 9 [.t (prP x)]);have hK2:∀ v:Int,KR (ks.set k v) ((h.push (.row 57 9 [.t (prP x)])).set 0 (.row 3 1 (((ks.set k v).map iv).map .t))):=fun v=>hK1.set
 obtain ⟨E,fq,gE⟩:=pre53 hk' hln hx hks e0 e1 e5 e6 hK;have gEA:=gE x.a gA.1 gA.2;have gLA:x.a.toNat<ps.length:=by omega
 have gEB:=gE x.b gB.1 gB.2;have gLB:x.b.toNat<ps.length:=by omega
 clear gE;generalize getK ks x.a=A at gEA ⊢;generalize getK ks x.b=B at gEB ⊢;obtain ⟨xk,xa,xb,xc,xvk,xvn,xs,xnm,xat⟩:=x;simp only at hk gA gEA gLA gB gEB gLB ⊢;rcases hk with rfl|rfl
 all_goals
  cases b0:eqI A B with
  | false =>
   cases b1:ltI 0 A with
   | false =>
    simp -implicitDefEqProofs (disch:=omega) [-List.getElem?_map,-List.map_map,-List.map_set,-storeD,-getElem?_pos,e0,e1,e5,e6,fq,usesN,hk',gA,gEA,gLA,gB,gEB,gLB,b0,b1,Wp_some];rw [h0]; refine ⟨rfl,?_,?_,?_,?_,hK1⟩<;>simp [e0,e1,e5]
   | true =>
    simp -implicitDefEqProofs (disch:=omega) [-List.getElem?_map,-List.map_map,-List.map_set,-storeD,-getElem?_pos,e0,e1,e5,e6,fq,usesN,hk',gA,gEA,gLA,gB,gEB,gLB,b0,b1,Wp_some];rw [h0]; refine ⟨rfl,?_,?_,?_,?_,hK1⟩<;>simp [e0,e1,e5]
  | true =>
   cases b1:ltI 0 A with
   | false =>
    simp -implicitDefEqProofs (disch:=omega) [-List.getElem?_map,-List.map_map,-List.map_set,-storeD,-getElem?_pos,e0,e1,e5,e6,fq,usesN,hk',gA,gEA,gLA,gB,gEB,gLB,b0,b1,Wp_some];rw [h0]; refine ⟨rfl,?_,?_,?_,?_,hK1⟩<;>simp [e0,e1,e5]
   | true =>
    simp -implicitDefEqProofs (disch:=omega) [-List.getElem?_map,-List.map_map,-List.map_set,-storeD,-getElem?_pos,e0,e1,e5,e6,fq,usesN,hk',gA,gEA,gLA,gB,gEB,gLB,b0,b1,Wp_some];refine ⟨rfl,?_,?_,?_,?_,hK2 _⟩<;>simp [e0,e1,e5]
theorem r53_13 (hk:x.k=13∨x.k=14∨x.k=15∨x.k=16)(gA:0≤x.a∧x.a<k)(gB:0≤x.b∧x.b<k)(h0:ks.set k 0=ks) :
  Wp (LB cx prim 53 Tryz.f53 0 ⟨183,env,h⟩) fun x' st'=>x' = .norm∧P53 ps y (ks.set k (if eqI (getK ks x.a) (getK ks x.b)&&(eqI (getK ks x.a) 1||eqI (getK ks x.a) 3) then 2 else 0)) (k+1) st':=by
 rw [LB_run nd53 rfl];have c1:(k:Int)<ps.length:=by omega
 have hK1:=hK.push (.row 57 9 [.t (prP x)]);have hK2:∀ v:Int,KR (ks.set k v) ((h.push (.row 57 9 [.t (prP x)])).set 0 (.row 3 1 (((ks.set k v).map iv).map .t))):=fun v=>hK1.set
 obtain ⟨E,fq,gE⟩:=pre53 hk' hln hx hks e0 e1 e5 e6 hK;have gEA:=gE x.a gA.1 gA.2;have gLA:x.a.toNat<ps.length:=by omega
 have gEB:=gE x.b gB.1 gB.2;have gLB:x.b.toNat<ps.length:=by omega
 clear gE;generalize getK ks x.a=A at gEA ⊢;generalize getK ks x.b=B at gEB ⊢;obtain ⟨xk,xa,xb,xc,xvk,xvn,xs,xnm,xat⟩:=x;simp only at hk gA gEA gLA gB gEB gLB ⊢;rcases hk with rfl|rfl|rfl|rfl
 all_goals
  cases b0:eqI A B with
  | false =>
   cases b1:eqI A 1 with
   | false =>
    cases b2:eqI A 3 with
    | false =>
     simp -implicitDefEqProofs (disch:=omega) [-List.getElem?_map,-List.map_map,-List.map_set,-storeD,-getElem?_pos,e0,e1,e5,e6,fq,usesN,hk',gA,gEA,gLA,gB,gEB,gLB,b0,b1,b2,Wp_some];rw [h0]; refine ⟨rfl,?_,?_,?_,?_,hK1⟩<;>simp [e0,e1,e5]
    | true =>
     simp -implicitDefEqProofs (disch:=omega) [-List.getElem?_map,-List.map_map,-List.map_set,-storeD,-getElem?_pos,e0,e1,e5,e6,fq,usesN,hk',gA,gEA,gLA,gB,gEB,gLB,b0,b1,b2,Wp_some];rw [h0]; refine ⟨rfl,?_,?_,?_,?_,hK1⟩<;>simp [e0,e1,e5]
   | true =>
    cases b2:eqI A 3 with
    | false =>
     simp -implicitDefEqProofs (disch:=omega) [-List.getElem?_map,-List.map_map,-List.map_set,-storeD,-getElem?_pos,e0,e1,e5,e6,fq,usesN,hk',gA,gEA,gLA,gB,gEB,gLB,b0,b1,b2,Wp_some];rw [h0]; refine ⟨rfl,?_,?_,?_,?_,hK1⟩<;>simp [e0,e1,e5]
    | true =>
     simp -implicitDefEqProofs (disch:=omega) [-List.getElem?_map,-List.map_map,-List.map_set,-storeD,-getElem?_pos,e0,e1,e5,e6,fq,usesN,hk',gA,gEA,gLA,gB,gEB,gLB,b0,b1,b2,Wp_some];rw [h0]; refine ⟨rfl,?_,?_,?_,?_,hK1⟩<;>simp [e0,e1,e5]
  | true =>
   cases b1:eqI A 1 with
   | false =>
    cases b2:eqI A 3 with
    | false =>
     simp -implicitDefEqProofs (disch:=omega) [-List.getElem?_map,-List.map_map,-List.map_set,-storeD,-getElem?_pos,e0,e1,e5,e6,fq,usesN,hk',gA,gEA,gLA,gB,gEB,gLB,b0,b1,b2,Wp_some];rw [h0]; refine ⟨rfl,?_,?_,?_,?_,hK1⟩<;>simp [e0,e1,e5]
    | true =>
     simp -implicitDefEqProofs (disch:=omega) [-List.getElem?_map,-List.map_map,-List.map_set,-storeD,-getElem?_pos,e0,e1,e5,e6,fq,usesN,hk',gA,gEA,gLA,gB,gEB,gLB,b0,b1,b2,Wp_some];refine ⟨rfl,?_,?_,?_,?_,hK2 _⟩<;>simp [e0,e1,e5]
   | true =>
    cases b2:eqI A 3 with
    | false =>
     simp -implicitDefEqProofs (disch:=omega) [-List.getElem?_map,-List.map_map,-List.map_set,-storeD,-getElem?_pos,e0,e1,e5,e6,fq,usesN,hk',gA,gEA,gLA,gB,gEB,gLB,b0,b1,b2,Wp_some];refine ⟨rfl,?_,?_,?_,?_,hK2 _⟩<;>simp [e0,e1,e5]
    | true =>
     simp -implicitDefEqProofs (disch:=omega) [-List.getElem?_map,-List.map_map,-List.map_set,-storeD,-getElem?_pos,e0,e1,e5,e6,fq,usesN,hk',gA,gEA,gLA,gB,gEB,gLB,b0,b1,b2,Wp_some];refine ⟨rfl,?_,?_,?_,?_,hK2 _⟩<;>simp [e0,e1,e5]
theorem r53_17 (hk:x.k=17∨x.k=18)(gA:0≤x.a∧x.a<k)(gB:0≤x.b∧x.b<k)(h0:ks.set k 0=ks) :
  Wp (LB cx prim 53 Tryz.f53 0 ⟨183,env,h⟩) fun x' st'=>x' = .norm∧P53 ps y (ks.set k (if eqI (getK ks x.a) 2&&eqI (getK ks x.b) 2 then 2 else 0)) (k+1) st':=by
 rw [LB_run nd53 rfl];have c1:(k:Int)<ps.length:=by omega
 have hK1:=hK.push (.row 57 9 [.t (prP x)]);have hK2:∀ v:Int,KR (ks.set k v) ((h.push (.row 57 9 [.t (prP x)])).set 0 (.row 3 1 (((ks.set k v).map iv).map .t))):=fun v=>hK1.set
 obtain ⟨E,fq,gE⟩:=pre53 hk' hln hx hks e0 e1 e5 e6 hK;have gEA:=gE x.a gA.1 gA.2;have gLA:x.a.toNat<ps.length:=by omega
 have gEB:=gE x.b gB.1 gB.2;have gLB:x.b.toNat<ps.length:=by omega
 clear gE;generalize getK ks x.a=A at gEA ⊢;generalize getK ks x.b=B at gEB ⊢;obtain ⟨xk,xa,xb,xc,xvk,xvn,xs,xnm,xat⟩:=x;simp only at hk gA gEA gLA gB gEB gLB ⊢;rcases hk with rfl|rfl
 all_goals
  cases b0:eqI A 2 with
  | false =>
   cases b1:eqI B 2 with
   | false =>
    simp -implicitDefEqProofs (disch:=omega) [-List.getElem?_map,-List.map_map,-List.map_set,-storeD,-getElem?_pos,e0,e1,e5,e6,fq,usesN,hk',gA,gEA,gLA,gB,gEB,gLB,b0,b1,Wp_some];rw [h0]; refine ⟨rfl,?_,?_,?_,?_,hK1⟩<;>simp [e0,e1,e5]
   | true =>
    simp -implicitDefEqProofs (disch:=omega) [-List.getElem?_map,-List.map_map,-List.map_set,-storeD,-getElem?_pos,e0,e1,e5,e6,fq,usesN,hk',gA,gEA,gLA,gB,gEB,gLB,b0,b1,Wp_some];rw [h0]; refine ⟨rfl,?_,?_,?_,?_,hK1⟩<;>simp [e0,e1,e5]
  | true =>
   cases b1:eqI B 2 with
   | false =>
    simp -implicitDefEqProofs (disch:=omega) [-List.getElem?_map,-List.map_map,-List.map_set,-storeD,-getElem?_pos,e0,e1,e5,e6,fq,usesN,hk',gA,gEA,gLA,gB,gEB,gLB,b0,b1,Wp_some];rw [h0]; refine ⟨rfl,?_,?_,?_,?_,hK1⟩<;>simp [e0,e1,e5]
   | true =>
    simp -implicitDefEqProofs (disch:=omega) [-List.getElem?_map,-List.map_map,-List.map_set,-storeD,-getElem?_pos,e0,e1,e5,e6,fq,usesN,hk',gA,gEA,gLA,gB,gEB,gLB,b0,b1,Wp_some];refine ⟨rfl,?_,?_,?_,?_,hK2 _⟩<;>simp [e0,e1,e5]
theorem r53_19 (hk:x.k=19)(gA:0≤x.a∧x.a<k)(gB:0≤x.b∧x.b<k)(gC:0≤x.c∧x.c<k)(h0:ks.set k 0=ks) :
  Wp (LB cx prim 53 Tryz.f53 0 ⟨183,env,h⟩) fun x' st'=>x' = .norm∧P53 ps y (ks.set k (if eqI (getK ks x.a) 2&&eqI (getK ks x.b) (getK ks x.c) then getK ks x.b else 0)) (k+1) st':=by
 rw [LB_run nd53 rfl];have c1:(k:Int)<ps.length:=by omega
 have hK1:=hK.push (.row 57 9 [.t (prP x)]);have hK2:∀ v:Int,KR (ks.set k v) ((h.push (.row 57 9 [.t (prP x)])).set 0 (.row 3 1 (((ks.set k v).map iv).map .t))):=fun v=>hK1.set
 obtain ⟨E,fq,gE⟩:=pre53 hk' hln hx hks e0 e1 e5 e6 hK;have gEA:=gE x.a gA.1 gA.2;have gLA:x.a.toNat<ps.length:=by omega
 have gEB:=gE x.b gB.1 gB.2;have gLB:x.b.toNat<ps.length:=by omega
 have gEC:=gE x.c gC.1 gC.2;have gLC:x.c.toNat<ps.length:=by omega
 clear gE;generalize getK ks x.a=A at gEA ⊢;generalize getK ks x.b=B at gEB ⊢;generalize getK ks x.c=C at gEC ⊢;obtain ⟨xk,xa,xb,xc,xvk,xvn,xs,xnm,xat⟩:=x;simp only at hk gA gEA gLA gB gEB gLB gC gEC gLC ⊢;subst hk
 cases b0:eqI A 2 with
 | false =>
  cases b1:eqI B C with
  | false =>
   simp -implicitDefEqProofs (disch:=omega) [-List.getElem?_map,-List.map_map,-List.map_set,-storeD,-getElem?_pos,e0,e1,e5,e6,fq,usesN,hk',gA,gEA,gLA,gB,gEB,gLB,gC,gEC,gLC,b0,b1,Wp_some];rw [h0]; refine ⟨rfl,?_,?_,?_,?_,hK1⟩<;>simp [e0,e1,e5]
  | true =>
   simp -implicitDefEqProofs (disch:=omega) [-List.getElem?_map,-List.map_map,-List.map_set,-storeD,-getElem?_pos,e0,e1,e5,e6,fq,usesN,hk',gA,gEA,gLA,gB,gEB,gLB,gC,gEC,gLC,b0,b1,Wp_some];rw [h0]; refine ⟨rfl,?_,?_,?_,?_,hK1⟩<;>simp [e0,e1,e5]
 | true =>
  cases b1:eqI B C with
  | false =>
   simp -implicitDefEqProofs (disch:=omega) [-List.getElem?_map,-List.map_map,-List.map_set,-storeD,-getElem?_pos,e0,e1,e5,e6,fq,usesN,hk',gA,gEA,gLA,gB,gEB,gLB,gC,gEC,gLC,b0,b1,Wp_some];rw [h0]; refine ⟨rfl,?_,?_,?_,?_,hK1⟩<;>simp [e0,e1,e5]
  | true =>
   simp -implicitDefEqProofs (disch:=omega) [-List.getElem?_map,-List.map_map,-List.map_set,-storeD,-getElem?_pos,e0,e1,e5,e6,fq,usesN,hk',gA,gEA,gLA,gB,gEB,gLB,gC,gEC,gLC,b0,b1,Wp_some];refine ⟨rfl,?_,?_,?_,?_,hK2 _⟩<;>simp [e0,e1,e5]
theorem r53_1 (hk:x.k=1)(h0:ks.set k 0=ks)(hxs:x.s.size≤1000000000) :
  Wp (LB cx prim 53 Tryz.f53 0 ⟨183,env,h⟩) fun x' st'=>x' = .norm∧P53 ps y (ks.set k (if mayV x.vk x.vn x.s then x.vk else 0)) (k+1) st':=by
 rw [LB_run nd53 rfl];have c1:(k:Int)<ps.length:=by omega
 have hK1:=hK.push (.row 57 9 [.t (prP x)]);have hK2:∀ v:Int,KR (ks.set k v) ((h.push (.row 57 9 [.t (prP x)])).set 0 (.row 3 1 (((ks.set k v).map iv).map .t))):=fun v=>hK1.set
 obtain ⟨E,fq,gE⟩:=pre53 hk' hln hx hks e0 e1 e5 e6 hK;clear gE;have q23:=fun h=>c23 (c:=53) x.vk x.vn x.s h hxs rfl
 obtain ⟨xk,xa,xb,xc,xvk,xvn,xs,xnm,xat⟩:=x;simp only at hk q23 ⊢;subst hk
 cases b0:mayV xvk xvn xs with
 | false =>
  rw [b0] at q23;simp -implicitDefEqProofs (disch:=omega) [-List.getElem?_map,-List.map_map,-List.map_set,-storeD,-getElem?_pos,e0,e1,e5,e6,fq,usesN,hk',q23,b0,Wp_some];rw [h0]; refine ⟨rfl,?_,?_,?_,?_,hK1⟩<;>simp [e0,e1,e5]
 | true =>
  rw [b0] at q23;simp -implicitDefEqProofs (disch:=omega) [-List.getElem?_map,-List.map_map,-List.map_set,-storeD,-getElem?_pos,e0,e1,e5,e6,fq,usesN,hk',q23,b0,Wp_some];refine ⟨rfl,?_,?_,?_,?_,hK2 _⟩<;>simp [e0,e1,e5]
theorem r53_2 (hk:x.k=2)(hy:Slice y (ds.map decT))(hld:ds.length≤2000000) :
  Wp (LB cx prim 53 Tryz.f53 0 ⟨183,env,h⟩) fun x' st'=>x' = .norm∧P53 ps y (ks.set k (kind3 (declK ds x.nm))) (k+1) st':=by
 rw [LB_run nd53 rfl];have c1:(k:Int)<ps.length:=by omega
 have hK1:=hK.push (.row 57 9 [.t (prP x)]);have hK2:∀ v:Int,KR (ks.set k v) ((h.push (.row 57 9 [.t (prP x)])).set 0 (.row 3 1 (((ks.set k v).map iv).map .t))):=fun v=>hK1.set
 obtain ⟨E,fq,gE⟩:=pre53 hk' hln hx hks e0 e1 e5 e6 hK;clear gE;have q97:=fun h=>c97 (c:=53) (nm:=x.nm) hy hld h rfl
 obtain ⟨xk,xa,xb,xc,xvk,xvn,xs,xnm,xat⟩:=x;simp only at hk q97 ⊢;subst hk;simp -implicitDefEqProofs (disch:=omega) [-List.getElem?_map,-List.map_map,-List.map_set,-storeD,-getElem?_pos,e0,e1,e5,e6,fq,usesN,hk',q97,Wp_some];refine ⟨rfl,?_,?_,?_,?_,hK2 _⟩<;>simp [e0,e1,e5]
theorem r53_0 (hk:x.k<1∨19<x.k)(h0:ks.set k 0=ks) :
  Wp (LB cx prim 53 Tryz.f53 0 ⟨183,env,h⟩) fun x' st'=>x' = .norm∧P53 ps y (ks.set k (0)) (k+1) st':=by
 rw [LB_run nd53 rfl];have c1:(k:Int)<ps.length:=by omega
 have hK1:=hK.push (.row 57 9 [.t (prP x)]);have hK2:∀ v:Int,KR (ks.set k v) ((h.push (.row 57 9 [.t (prP x)])).set 0 (.row 3 1 (((ks.set k v).map iv).map .t))):=fun v=>hK1.set
 obtain ⟨E,fq,gE⟩:=pre53 hk' hln hx hks e0 e1 e5 e6 hK;clear gE;obtain ⟨xk,xa,xb,xc,xvk,xvn,xs,xnm,xat⟩:=x;simp only at hk ⊢;rcases hk with hk|hk
 all_goals
  have n1:¬ (3≤xk∧xk≤5):=by omega
  have n2:¬ (6≤xk∧xk≤18):=by omega
  have n3:¬ xk=19:=by omega
  have u0:usesN xk=0:=by unfold usesN; rw [if_neg n1,if_neg n2,if_neg n3]
  simp -implicitDefEqProofs (disch:=omega) [-List.getElem?_map,-List.map_map,-List.map_set,-storeD,-getElem?_pos,e0,e1,e5,e6,fq,u0,hk',Wp_some];rw [h0]; refine ⟨rfl,?_,?_,?_,?_,hK1⟩<;>simp [e0,e1,e5]
end
theorem wp_conv {r:CR}{Q Q':X→St→Prop}(h:Wp r Q)(hq:∀ x st,Q x st→Q' x st):Wp r Q':=h.elim fun x ⟨st,hr,hh⟩=>⟨x,st,hr,hq x st hh⟩
theorem round53 {ps:List PT}{y:T}{ds:List DV}{k:Nat}{x:PT}{env:Nat→D}{h:H}(hy:Slice y (ds.map decT))(hld:ds.length≤2000000)(hk':k<ps.length)(hln:ps.length≤256)(hx:ps[k]?=some x)(hxs:x.s.size≤1000000000)(hs:sidesB x k=true)
   (e0:env 0 = .t (.slice (ps.map prP))) (e1:env 1 = .t y) (e5:env 5 = .row 0 0 ps.length ps.length) (e6:env 6 = .t (.int .i64 k)) (hK:KR (padK (kindsL ps ds k) ps.length) h) :
   Wp (LB cx prim 53 Tryz.f53 0 ⟨183,env,h⟩) fun x' st'=>x' = .norm∧P53 ps y (padK (kindsL ps ds (k+1)) ps.length) (k+1) st':=by
 have hkl:=kindsL_len ps ds k;have hpl:(padK (kindsL ps ds k) ps.length).length=ps.length:=padK_len (by omega)
 have hall:allIn (usesS x) k=true:=hs;have hset:∀ v,kdS x ds (getK (kindsL ps ds k))=v→(padK (kindsL ps ds k) ps.length).set k v=padK (kindsL ps ds (k+1)) ps.length:=fun v hv=>by
   rw [kindsL_at hx,hv,←padK_set (by omega),hkl]
 have h0:(padK (kindsL ps ds k) ps.length).set k 0=padK (kindsL ps ds k) ps.length:=by
   have:=padK_set0 (l:=kindsL ps ds k) (n:=ps.length) (by omega)
   rw [hkl] at this;exact this
 obtain ⟨ua,ub,uc⟩:=uses_k (x:=x);have ga:3≤x.k→x.k≤19→0≤x.a∧x.a<k:=fun h1 h2=>allIn_mem hall (ua h1 h2)
 have gb:6≤x.k→x.k≤19→0≤x.b∧x.b<k:=fun h1 h2=>allIn_mem hall (ub h1 h2)
 have gc:x.k=19→0≤x.c∧x.c<k:=fun h1=>allIn_mem hall (uc h1)
 have pa:3≤x.k→x.k≤19→getK (padK (kindsL ps ds k) ps.length) x.a=getK (kindsL ps ds k) x.a:=fun h1 h2=>padK_get (ga h1 h2).1 (by rw [hkl]; exact (ga h1 h2).2)
 have pb:6≤x.k→x.k≤19→getK (padK (kindsL ps ds k) ps.length) x.b=getK (kindsL ps ds k) x.b:=fun h1 h2=>padK_get (gb h1 h2).1 (by rw [hkl]; exact (gb h1 h2).2)
 have pc:x.k=19→getK (padK (kindsL ps ds k) ps.length) x.c=getK (kindsL ps ds k) x.c:=fun h1=>padK_get (gc h1).1 (by rw [hkl]; exact (gc h1).2)
 by_cases k1:x.k=1
 · refine wp_conv (r53_1 hk' hln hx hpl e0 e1 e5 e6 hK k1 h0 hxs) fun x' st' ⟨q1,q2⟩=>⟨q1,?_⟩
   rw [hset _ (by unfold kdS; rw [if_pos k1])] at q2; exact q2
 by_cases k2:x.k=2
 · refine wp_conv (r53_2 (ds:=ds) hk' hln hx hpl e0 e1 e5 e6 hK k2 hy hld) fun x' st' ⟨q1,q2⟩=>⟨q1,?_⟩
   rw [hset _ (by unfold kdS; rw [if_neg k1,if_pos k2])] at q2; exact q2
 by_cases k3:x.k=3
 · refine wp_conv (r53_3 hk' hln hx hpl e0 e1 e5 e6 hK k3 (ga (by omega) (by omega)) h0) fun x' st' ⟨q1,q2⟩=>⟨q1,?_⟩
   rw [pa (by omega) (by omega),hset _ (by unfold kdS; rw [if_neg k1,if_neg k2,if_pos k3]; simp [eqI])] at q2; exact q2
 by_cases k4:x.k=4
 · refine wp_conv (r53_4 hk' hln hx hpl e0 e1 e5 e6 hK k4 (ga (by omega) (by omega)) h0) fun x' st' ⟨q1,q2⟩=>⟨q1,?_⟩
   rw [pa (by omega) (by omega),hset _ (by unfold kdS; rw [if_neg k1,if_neg k2,if_neg k3,if_pos k4]; simp [eqI])] at q2; exact q2
 by_cases k5:x.k=5
 · refine wp_conv (r53_5 hk' hln hx hpl e0 e1 e5 e6 hK k5 (ga (by omega) (by omega)) h0) fun x' st' ⟨q1,q2⟩=>⟨q1,?_⟩
   rw [pa (by omega) (by omega),hset _ (by unfold kdS; rw [if_neg k1,if_neg k2,if_neg k3,if_neg k4,if_pos k5]; simp [eqI])] at q2; exact q2
 by_cases k6:x.k=6∨x.k=7∨x.k=8∨x.k=10
 · refine wp_conv (r53_6 hk' hln hx hpl e0 e1 e5 e6 hK k6 (ga (by omega) (by omega)) (gb (by omega) (by omega)) h0) fun x' st' ⟨q1,q2⟩=>⟨q1,?_⟩
   rw [pa (by omega) (by omega),pb (by omega) (by omega),hset _ (by unfold kdS; rw [if_neg k1,if_neg k2,if_neg k3,if_neg k4,if_neg k5,if_pos k6]; simp [eqI])] at q2; exact q2
 by_cases k9:x.k=9
 · refine wp_conv (r53_9 hk' hln hx hpl e0 e1 e5 e6 hK k9 (ga (by omega) (by omega)) (gb (by omega) (by omega)) h0) fun x' st' ⟨q1,q2⟩=>⟨q1,?_⟩
   rw [pa (by omega) (by omega),pb (by omega) (by omega),hset _ (by unfold kdS; rw [if_neg k1,if_neg k2,if_neg k3,if_neg k4,if_neg k5,if_neg k6,if_pos k9]; simp [eqI])] at q2; exact q2
 by_cases k11:x.k=11∨x.k=12
 · refine wp_conv (r53_11 hk' hln hx hpl e0 e1 e5 e6 hK k11 (ga (by omega) (by omega)) (gb (by omega) (by omega)) h0) fun x' st' ⟨q1,q2⟩=>⟨q1,?_⟩
   rw [pa (by omega) (by omega),pb (by omega) (by omega),hset _ (by unfold kdS; rw [if_neg k1,if_neg k2,if_neg k3,if_neg k4,if_neg k5,if_neg k6,if_neg k9,if_pos k11]; simp [eqI,ltI])] at q2; exact q2
 by_cases k13:x.k=13∨x.k=14∨x.k=15∨x.k=16
 · refine wp_conv (r53_13 hk' hln hx hpl e0 e1 e5 e6 hK k13 (ga (by omega) (by omega)) (gb (by omega) (by omega)) h0) fun x' st' ⟨q1,q2⟩=>⟨q1,?_⟩
   rw [pa (by omega) (by omega),pb (by omega) (by omega),hset _ (by unfold kdS; rw [if_neg k1,if_neg k2,if_neg k3,if_neg k4,if_neg k5,if_neg k6,if_neg k9,if_neg k11,if_pos k13]; simp [eqI])] at q2; exact q2
 by_cases k17:x.k=17∨x.k=18
 · refine wp_conv (r53_17 hk' hln hx hpl e0 e1 e5 e6 hK k17 (ga (by omega) (by omega)) (gb (by omega) (by omega)) h0) fun x' st' ⟨q1,q2⟩=>⟨q1,?_⟩
   rw [pa (by omega) (by omega),pb (by omega) (by omega),hset _ (by unfold kdS; rw [if_neg k1,if_neg k2,if_neg k3,if_neg k4,if_neg k5,if_neg k6,if_neg k9,if_neg k11,if_neg k13,if_pos k17]; simp [eqI])] at q2; exact q2
 by_cases k19:x.k=19
 · refine wp_conv (r53_19 hk' hln hx hpl e0 e1 e5 e6 hK k19 (ga (by omega) (by omega)) (gb (by omega) (by omega)) (gc k19) h0) fun x' st' ⟨q1,q2⟩=>⟨q1,?_⟩
   rw [pa (by omega) (by omega),pb (by omega) (by omega),pc k19,hset _ (by unfold kdS; rw [if_neg k1,if_neg k2,if_neg k3,if_neg k4,if_neg k5,if_neg k6,if_neg k9,if_neg k11,if_neg k13,if_neg k17,if_pos k19]; simp [eqI])] at q2; exact q2
 · refine wp_conv (r53_0 hk' hln hx hpl e0 e1 e5 e6 hK (by omega) h0) fun x' st' ⟨q1,q2⟩=>⟨q1,?_⟩
   rw [hset _ (by unfold kdS; rw [if_neg k1,if_neg k2,if_neg k3,if_neg k4,if_neg k5,if_neg k6,if_neg k9,if_neg k11,if_neg k13,if_neg k17,if_neg k19])] at q2; exact q2
def sidesAll (ps:List PT):Prop:=∀ (k:Nat) (x:PT),ps[k]?=some x→sidesB x k=true
theorem s53 {ps:List PT}{y:T}{ds:List DV}(hy:Slice y (ds.map decT))(hld:ds.length≤2000000)(h0:0<ps.length)(hln:ps.length≤256)(hps:∀ x∈ps,x.s.size≤1000000000)(hs:sidesAll ps) :
  ∃ h',call cx prim 53 [.t (.slice (ps.map prP)),.t y] .empty=some (.row 0 0 ps.length ps.length,h')∧h'.objs 0=some (.row 3 1 (((kindsL ps ds ps.length).map iv).map .t)):=by
 rw [call_run (cx:=cx) rfl Tryz.func53 ok53 nd53 rfl (lbe rfl) rfl rfl];have mk:=fun h=>makeZ (n:=ps.length) h hln
 simp -implicitDefEqProofs (disch:=omega) [-List.map_replicate,-List.map_map,mk];generalize hLp:loopω _ _=L;obtain ⟨x',st',rfl,rfl,hq⟩:=loop_uses hLp ps.length
  (fun k st=>P53 ps y (padK (kindsL ps ds k) ps.length) k st)
  (fun x' st=>x' = .exit 0∧P53 ps y (kindsL ps ds ps.length) ps.length st)
  ⟨rfl,by simp,by simp,by simp,by simp,⟨by simp [kindsL,padK],by simp [H.push,H.empty],rfl⟩⟩ (by
  rintro k ⟨nn,env,h2⟩ hk ⟨rfl,e0,e1,e5,e6,hK⟩;simp only at e0 e1 e5 e6 hK;by_cases hk':k<ps.length
  · obtain ⟨x,hx⟩:∃ x,ps[k]?=some x:=⟨ps[k],by simp [hk']⟩
    exact wp_conv (round53 hy hld hk' hln hx (hps x (List.mem_of_getElem? hx)) (hs k x hx) e0 e1 e5 e6 hK) fun x' st' ⟨q1,q2⟩=>.inl ⟨q1,hk',q2⟩
  · obtain rfl:k=ps.length:=by omega
    rw [LB_run nd53 rfl];have e:padK (kindsL ps ds ps.length) ps.length=kindsL ps ds ps.length:=by simp [padK,kindsL_len]
    rw [e] at hK;simp -implicitDefEqProofs (disch:=omega) [e0,e6,Wp_some];refine ⟨rfl,?_,?_,?_,?_,hK⟩<;>simp [e0,e1,e5,e6])
 obtain ⟨nn,env,h⟩:=st';have hn:=hq.n;have h5:=hq.e5;have hK:=hq.h;simp only at hn h5 hK;subst hn;simp -implicitDefEqProofs (disch:=omega) [-List.map_map,h5];exact hK.o
theorem c53 {c:FuncId}{ps:List PT}{y:T}{ds:List DV}(hy:Slice y (ds.map decT))(hld:ds.length≤2000000)(h0:0<ps.length)(hln:ps.length≤256)(hps:∀ x∈ps,x.s.size≤1000000000)(hs:sidesAll ps)(hm:md c 53 = .pure)(h:H) :
  callD (cx.at c) (call cx prim) 53 [.t (.slice (ps.map prP)),.t y] h=some (.t (.slice ((kindsL ps ds ps.length).map iv)),h):=by
 obtain ⟨h',q,ho⟩:=s53 hy hld h0 hln hps hs;refine pureT cb53 hm q ?_ rfl;have hl:(((kindsL ps ds ps.length).map iv).map D.t).length=ps.length:=by simp [kindsL_len]
 have:snap h' (.row 0 0 ps.length ps.length)=some (.slice ((kindsL ps ds ps.length).map iv)):=by
  have e:h'.els 0 ps.length=some (3,1,((kindsL ps ds ps.length).map iv).map D.t):=by simp only [H.els,ho]; rw [if_pos hl]
  show snapF h' 5 (.row 0 0 ps.length ps.length)=_;rw [snapF_row,e];simp only [Nat.zero_add,hl,Nat.le_refl,if_true,List.drop_zero];rw [List.take_of_length_le (by omega),snapF_map]
  rfl
 show (snap h' (.row 0 0 ps.length ps.length)).map D.t=_;rw [this]; rfl
end Go.Proofs.YtaldobgfbkllfaaGreatDoor
