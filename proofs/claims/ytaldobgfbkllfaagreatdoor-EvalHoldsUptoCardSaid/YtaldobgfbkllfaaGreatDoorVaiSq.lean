import Derived.Test.YtaldobgfbkllfaaGreatDoorVaiSp
set_option linter.unusedSimpArgs false
set_option linter.unusedVariables false
set_option linter.unusedSectionVars false
namespace Go.Proofs.YtaldobgfbkllfaaGreatDoor
open Vai P0
set_option maxHeartbeats 0
set_option maxRecDepth 100000
def WhyR:PR→Prop
 | .ok _ _ _=>True
 | .er _ w=>w=131∨w=134
theorem rd_why {L:Int}{mo:Mo}{ts:List Tk}{d:Nat}{out:List PT}{r:PR}(h:Rd L mo ts d out r):WhyR r:=by
 induction h with
 | un_er h1 h2 h3 ih=>exact ih
 | un_br h1 h2 h3 ih=>exact ih
 | len_er h1 h2 h3 h4 h5 ih=>exact ih
 | br_er h1 h2 h3 ih=>exact ih
 | lv_er h1 h2 ih=>exact ih
 | lv_ok h1 h2 h3 ih1 ih2=>exact ih2
 | ch_er h1 h2 h3 ih=>exact ih
 | ch_ok h1 h2 h3 h4 ih1 ih2=>exact ih2
 | fo_er h1 ih=>exact ih
 | fo_b h1 h2 h3 h4 ih1 ih2=>exact ih2
 | fo_c h1 h2 h3 h4 h5 h6 ih1 ih2 ih3=>exact ih3
 | _=>simp [WhyR]
theorem fau_why {r:PR}(h:WhyR r):(fauA r).2=0∧(∃ v out,r = .ok v [] out)∨(fauA r).2≠0:=by
 cases r with
 | er p w=>right; rcases h with h|h<;>simp [fauA,h]
 | ok v ts out =>
  cases ts with
  | nil=>exact .inl ⟨rfl,v,out,rfl⟩
  | cons t ts=>right; simp [fauA]
def ParseIs (s:ByteArray)(ds:List DV)(ps:List PT)(p w:Int):Prop :=
 ((lexS s).2.2≠0∧ps=[]∧p=(lexS s).2.1∧w=(lexS s).2.2) ∨
 ((lexS s).2.2=0∧∃ r,Rd s.size (.lv 6) (lexS s).1 0 [] r ∧
  (((fauA r).2≠0∧ps=[]∧p=(fauA r).1∧w=(fauA r).2) ∨
   ∃ v out,r = .ok v [] out∧((goodK out ds out.length=true∧ps=out∧p=0∧w=0)∨(BadAt out ds p w∧ps=[]))))
end Go.Proofs.YtaldobgfbkllfaaGreatDoor

namespace Go.Proofs.YtaldobgfbkllfaaGreatDoor
open Vai P0
variable [Gl]
set_option maxHeartbeats 0
set_option maxRecDepth 100000
theorem s20_lex {s:ByteArray}{y:T}(hs:s.size≤1000000000)(hw:(lexS s).2.2≠0):∃ h',call cx prim 20 [.t (.str s),.t y] .empty=some (.tup [.t .nilSlice,.t (iv (lexS s).2.1),.t (iv (lexS s).2.2)],h'):=by
 obtain ⟨x,hx,q39⟩:=c39 (c:=20) s hs rfl;rw [call_run (cx:=cx) rfl Tryz.func20 ok20 nd20 rfl (lbe rfl) rfl rfl];have e0:=eqI_false hw;generalize (lexS s).2.1=A at *;generalize (lexS s).2.2=W at *;simp -implicitDefEqProofs (disch:=omega) [q39,e0]
theorem s20_par {s:ByteArray}{y:T}{r:PR}(hs:s.size≤1000000000)(hw:(lexS s).2.2=0)(hr:Rd s.size (.lv 6) (lexS s).1 0 [] r)(hf:(fauA r).2≠0) :
  ∃ h',call cx prim 20 [.t (.str s),.t y] .empty=some (.tup [.t .nilSlice,.t (iv (fauA r).1),.t (iv (fauA r).2)],h'):=by
 obtain ⟨x,hx,q39⟩:=c39 (c:=20) s hs rfl;rw [hw] at q39;have hl:=lexS_len s;have hp:PX 0 (H.empty.push (psO s x 0 (.t .nilSlice))) 0 s (lexS s).1 0 []:=⟨Nat.le_refl _,by simp [H.empty],rfl,x,_,hx,by simp [H.empty],.inl ⟨rfl,rfl⟩⟩
 obtain ⟨h2,q40,_⟩:=c40 (c:=20) hp hl hr rfl;rw [call_run (cx:=cx) rfl Tryz.func20 ok20 nd20 rfl (lbe rfl) rfl rfl];have e0:=eqI_false hf;generalize (lexS s).2.1=A at *;generalize (fauA r).1=A2 at *;generalize (fauA r).2=W at *;have hpush:psO s x 0 (.t .nilSlice) = .row 85 4 [.t (.agg [.str s,x,.int .i64 0,.nilSlice])]:=by
  rcases hx with ⟨rfl,_⟩|rfl<;>rfl
 rw [hpush] at q40;rcases hx with ⟨rfl,_⟩|rfl <;>
  simp -implicitDefEqProofs (disch:=omega) [q39,q40,e0]
theorem fa1 {h:H}{id:Nat}{a b:Int}(ho:h.objs id=some (.row 87 2 [.t (.agg [.int .i64 a,.int .i64 b])])):loadD Tryz.prog h 27 (.ptr id 0 1 1)=some (.t (.int .i64 b)):=by simp [ho]
theorem ff1 {h:H}{id:Nat}{a b:Int}(ho:h.objs id=some (.row 87 2 [.t (.agg [.int .i64 a,.int .i64 b])])):fieldAddrD Tryz.prog h 87 (.ptr id 0 0 1) 1=some (.ptr id 0 1 1):=by simp [ho]
theorem s20_all {s:ByteArray}{y:T}{ds:List DV}{v:Nat}{out:List PT}(hs:s.size≤1000000000)(hy:Slice y (ds.map decT))(hlD:ds.length≤2000000)(hw:(lexS s).2.2=0)(hr:Rd s.size (.lv 6) (lexS s).1 0 [] (.ok v [] out))
   (hps:∀ x∈out,x.s.size≤1000000000) :
   ∃ d p w h',call cx prim 20 [.t (.str s),.t y] .empty=some (.tup [d,.t (iv p),.t (iv w)],h') ∧
     ((goodK out ds out.length=true∧p=0∧w=0∧∃ id,id<h'.next∧d = .row id 0 out.length out.length∧h'.objs id=some (.row 57 9 ((out.map prP).map .t)))∨(BadAt out ds p w∧d = .t .nilSlice)):=by
 obtain ⟨x,hx,q39⟩:=c39 (c:=20) s hs rfl;rw [hw] at q39;have hl:=lexS_len s;have hsz:=rd_size hr;simp only [Size,List.length_nil] at hsz;obtain ⟨hwf,hv,_⟩:=rd_wf hr (fun i x hx=>by simp at hx)
 have hp:PX 0 (H.empty.push (psO s x 0 (.t .nilSlice))) 0 s (lexS s).1 0 []:=⟨Nat.le_refl _,by simp [H.empty],rfl,x,_,hx,by simp [H.empty],.inl ⟨rfl,rfl⟩⟩
 obtain ⟨h2,q40,hpx⟩:=c40 (c:=20) hp hl hr rfl;obtain ⟨_,g2,g3,x2,o,hx2,ho,h5⟩:=hpx v out rfl;rcases h5 with ⟨_,e⟩|⟨id,_,i2,rfl,i3⟩
 · rw [e] at hv; simp at hv
 simp only [fauA] at q40;have hpush:psO s x 0 (.t .nilSlice) = .row 85 4 [.t (.agg [.str s,x,.int .i64 0,.nilSlice])]:=by
   rcases hx with ⟨rfl,_⟩|rfl<;>rfl
 rw [hpush] at q40;have hc2:=Slice.cells hx2;have o1:∀ w,(h2.push w).objs 0=some (psO s x2 0 (.row id 0 out.length out.length)):=fun w=>by simp only [push_objs,upd_ne _ _ (show 0≠h2.next by omega)]; exact ho
 have o3:∀ w w' w'' w3,((((h2.push w).push w').push w'').set (h2.next+1+1) w3).objs 0=some (psO s x2 0 (.row id 0 out.length out.length)):=fun w w' w'' w3=>by
   simp only [set_objs,push_objs,push_next,upd_ne _ _ (show 0≠h2.next by omega),upd_ne _ _ (show 0≠h2.next+1 by omega),upd_ne _ _ (show 0≠h2.next+1+1 by omega)]; exact ho
 have a1:=fun w=>ps_3 (o1 w) hc2
 have a2:=fun w=>ps_nil (o1 w)
 have a3:=fun w=>ps_f3 (o1 w)
 have b1:=fun w w' w'' w3=>ps_3 (o3 w w' w'' w3) hc2
 have b2:=fun w w' w'' w3=>ps_nil (o3 w w' w'' w3)
 have b3:=fun w w' w'' w3=>ps_f3 (o3 w w' w'' w3)
 have c1:=fa1 (h:=h2.push (.row 87 2 [.t (.agg [.int .i64 0,.int .i64 0])])) (id:=h2.next) (a:=0) (b:=0) (by simp)
 have c2:=ff1 (h:=h2.push (.row 87 2 [.t (.agg [.int .i64 0,.int .i64 0])])) (id:=h2.next) (a:=0) (b:=0) (by simp)
 have i3':∀ w,(h2.push w).objs id=some (.row 57 9 ((out.map prP).map .t)):=fun w=>by simp only [push_objs,upd_ne _ _ (show id≠h2.next by omega)]; exact i3
 have mz:=fun h=>makeZ (n:=out.length) h (by omega)
 have i3'':∀ w w' w'' w3,((((h2.push w).push w').push w'').set (h2.next+1+1) w3).objs id=some (.row 57 9 ((out.map prP).map .t)):=fun w w' w'' w3=>by
   simp only [set_objs,push_objs,push_next,upd_ne _ _ (show id≠h2.next by omega),upd_ne _ _ (show id≠h2.next+1 by omega),upd_ne _ _ (show id≠h2.next+1+1 by omega)]; exact i3
 have hlo:((out.map prP).map D.t).length=out.length:=by simp
 rw [call_run (cx:=cx) rfl Tryz.func20 ok20 nd20 rfl (lbe rfl) rfl rfl];rcases hx with ⟨rfl,_⟩|rfl
 · simp -implicitDefEqProofs (disch:=omega) [-load_ptr,-nilCheckD,-fieldAddrD,-List.map_map,q39,q40,a1,a2,a3,b1,b2,b3,c1,c2,i3',i3'',hlo,push_set,mz,g3,D.parts]
   generalize hLp:loopω (LB cx prim 20 Tryz.f20 0) _=R;obtain ⟨x',⟨nn,env,h9⟩,rfl,rfl,hq⟩:=l20 (a:=h2.next+1) (o:=id) (c:=h2.next+1+1) (P:=0) (s:=s) (tx:=x2) (ps:=out) (ds:=ds) hy hlD hps (by omega) hwf hLp rfl (by simp) (by simp) (by simp) (by simp) (by simp) (by simp)
     ⟨by simp [padK],by simpa using i3'' _ _ _ _,by simp [padK],o3 _ _ _ _,by omega,by omega,by omega,by simp<;>omega,by simp<;>omega,by simp<;>omega,by simp<;>omega,by simpa using g3⟩
   simp only at hq;rcases hq with ⟨rfl,hg,e10,hK⟩|⟨rfl,p,w,hb,e4,e5,e6⟩
   · have z1:=ps_3 hK.oP hc2
     simp -implicitDefEqProofs (disch:=omega) [-load_ptr,-nilCheckD,-fieldAddrD,e10,ps_nil hK.oP,ps_f3 hK.oP,z1];exact ⟨_,_,_,_,⟨⟨rfl,rfl,rfl⟩,rfl⟩,.inl ⟨hg,rfl,rfl,id,hK.lo,rfl,by simpa using hK.oo⟩⟩
   · simp -implicitDefEqProofs (disch:=omega) [e4,e5,e6]
     exact ⟨_,p,w,_,⟨⟨rfl,rfl,rfl⟩,rfl⟩,.inr ⟨hb,rfl⟩⟩
 · simp -implicitDefEqProofs (disch:=omega) [-load_ptr,-nilCheckD,-fieldAddrD,-List.map_map,q39,q40,a1,a2,a3,b1,b2,b3,c1,c2,i3',i3'',hlo,push_set,mz,g3,D.parts]
   generalize hLp:loopω (LB cx prim 20 Tryz.f20 0) _=R;obtain ⟨x',⟨nn,env,h9⟩,rfl,rfl,hq⟩:=l20 (a:=h2.next+1) (o:=id) (c:=h2.next+1+1) (P:=0) (s:=s) (tx:=x2) (ps:=out) (ds:=ds) hy hlD hps (by omega) hwf hLp rfl (by simp) (by simp) (by simp) (by simp) (by simp) (by simp)
     ⟨by simp [padK],by simpa using i3'' _ _ _ _,by simp [padK],o3 _ _ _ _,by omega,by omega,by omega,by simp<;>omega,by simp<;>omega,by simp<;>omega,by simp<;>omega,by simpa using g3⟩
   simp only at hq;rcases hq with ⟨rfl,hg,e10,hK⟩|⟨rfl,p,w,hb,e4,e5,e6⟩
   · have z1:=ps_3 hK.oP hc2
     simp -implicitDefEqProofs (disch:=omega) [-load_ptr,-nilCheckD,-fieldAddrD,e10,ps_nil hK.oP,ps_f3 hK.oP,z1];exact ⟨_,_,_,_,⟨⟨rfl,rfl,rfl⟩,rfl⟩,.inl ⟨hg,rfl,rfl,id,hK.lo,rfl,by simpa using hK.oo⟩⟩
   · simp -implicitDefEqProofs (disch:=omega) [e4,e5,e6]
     exact ⟨_,p,w,_,⟨⟨rfl,rfl,rfl⟩,rfl⟩,.inr ⟨hb,rfl⟩⟩
def SmallP (s:ByteArray):Prop:=∀ v out,Rd s.size (.lv 6) (lexS s).1 0 [] (.ok v [] out)→∀ x∈out,x.s.size≤1000000000
theorem c20 {c:FuncId}{s:ByteArray}{y:T}{ds:List DV}(hs:s.size≤1000000000)(hy:Slice y (ds.map decT))(hlD:ds.length≤2000000)(hsm:SmallP s)(hm:md c 20 = .pure) :
   ∃ ps p w x,ParseIs s ds ps p w∧Slice x (ps.map prP)∧∀ h,callD (cx.at c) (call cx prim) 20 [.t (.str s),.t y] h=some (.tup [.t x,.t (iv p),.t (iv w)],h):=by
 by_cases hw:(lexS s).2.2=0
 · obtain ⟨r,hr⟩:=rd_total s.size ((lexS s).1.length*10+8) (.lv 6) (lexS s).1 0 [] (by simp only [rank]; omega) (by simp [Good])
   rcases fau_why (rd_why hr) with ⟨h0,v,out,rfl⟩|h0
   · obtain ⟨d,p,w,h',q,k⟩:=s20_all hs hy hlD hw hr (hsm v out hr)
     rcases k with ⟨hg,rfl,rfl,id,k1,rfl,k3⟩|⟨hb,rfl⟩
     · refine ⟨out,0,0,.slice (out.map prP),.inr ⟨hw,_,hr,.inr ⟨v,out,rfl,.inl ⟨hg,rfl,rfl,rfl⟩⟩⟩,.inr rfl,fun h=>pureT cb20 hm q ?_ rfl⟩
       have hsn:Vai.snap h' (.row id 0 out.length out.length)=some (.slice (out.map prP)):=row_snap k3 (by simp)
       simp only [snapOut,allM,hsn,snap_t]; rfl
     · exact ⟨[],p,w,.nilSlice,.inr ⟨hw,_,hr,.inr ⟨v,out,rfl,.inr ⟨hb,rfl⟩⟩⟩,.inl ⟨rfl,rfl⟩,fun h=>pureT cb20 hm q rfl rfl⟩
   · obtain ⟨h',q⟩:=s20_par (y:=y) hs hw hr h0
     exact ⟨[],_,_,.nilSlice,.inr ⟨hw,r,hr,.inl ⟨h0,rfl,rfl,rfl⟩⟩,.inl ⟨rfl,rfl⟩,fun h=>pureT cb20 hm q rfl rfl⟩
 · obtain ⟨h',q⟩:=s20_lex (y:=y) hs hw
   exact ⟨[],_,_,.nilSlice,.inl ⟨hw,rfl,rfl,rfl⟩,.inl ⟨rfl,rfl⟩,fun h=>pureT cb20 hm q rfl rfl⟩
end Go.Proofs.YtaldobgfbkllfaaGreatDoor

namespace Go.Proofs.YtaldobgfbkllfaaGreatDoor
open Vai P0
set_option maxHeartbeats 0
def TkS (t:Tk):Prop:=t.kind=2→t.text.size≤64
theorem tok1_small {s:ByteArray}{i:Nat}{t:Tk}{j:Nat}(h:tok1 s i = .ok (t,j)):TkS t:=by
 unfold tok1 at h;split at h
 · split at h
   · cases h; intro e; cases e
   · cases h
 split at h
 · cases h; intro e; cases e
 split at h
 · split at h
   · split at h
     · cases h
     · rename_i hl; cases h; intro _; simp only [ByteArray.size,List.size_toArray]; omega
   · cases h
 split at h
 · cases h
 · cases h; intro e; cases e
theorem toks_small {s:ByteArray}{i:Nat}{l:List Tk}:∀ {m},toks s i l = .ok m→(∀ t∈l,TkS t)→∀ t∈m,TkS t:=by
 fun_induction toks s i l with
 | case1 i l h=>intro m e hl; cases e; exact hl
 | case2=>intro m e hl; cases e
 | case3 i l h1 t j ht h2 ih =>
  intro m e hl;refine ih e fun x hx=>?_
  rcases List.mem_append.1 hx with hx|hx
  · exact hl x hx
  · simp at hx; subst hx; exact tok1_small ht
 | case4=>intro m e hl; cases e; exact hl
theorem lexS_small (s:ByteArray):∀ t∈(lexS s).1,TkS t:=by
 unfold lexS;split
 · simp
 split
 · simp
 split
 · rename_i l h; exact toks_small h (by simp)
 · simp
theorem leaf_small {t:Tk}{p:PT}(ht:TkS t)(h:leafA t=some p):p.s.size≤64:=by
 unfold leafA at h;split at h
 · cases h; simp [noText,ByteArray.size]
 split at h
 · rename_i h2; cases h; exact ht h2
 split at h
 · cases h
 split at h
 · cases h; simp [noText,ByteArray.size]
 split at h
 · cases h; simp [noText,ByteArray.size]
 split at h
 · cases h
 · cases h; simp [noText,ByteArray.size]
def SmR (ts:List Tk)(out:List PT):PR→Prop
 | .ok _ ts2 out2=>(∀ t∈ts,TkS t)→(∀ x∈out,x.s.size≤64)→(∀ t∈ts2,TkS t)∧∀ x∈out2,x.s.size≤64
 | .er _ _=>True
theorem small_nod {out:List PT}{op a b c p:Int}(h:∀ x∈out,x.s.size≤64):∀ x∈out ++ [nod op a b c p],x.s.size≤64:=fun x hx=>by
 rcases List.mem_append.1 hx with hx|hx
 · exact h x hx
 · simp at hx; subst hx; simp [nod,noText,ByteArray.size]
theorem rd_small {L:Int}{mo:Mo}{ts:List Tk}{d:Nat}{out:List PT}{r:PR}(h:Rd L mo ts d out r):SmR ts out r:=by
 induction h with
 | un_ok h1 h2 h3 ih=>exact fun a b=>have k:=ih (fun t ht=>a t (.tail _ ht)) b; ⟨k.1,small_nod k.2⟩
 | un_leaf h1 h2=>exact fun a b=>⟨fun t ht=>a t (.tail _ ht),fun x hx=>by
  rcases List.mem_append.1 hx with hx|hx
  · exact b x hx
  · simp at hx; subst hx; exact leaf_small (a _ (.head _)) h2⟩
 | un_br h1 h2 h3 ih=>rename_i r; cases r<;>exact ih
 | len_ok h1 h2 h3 h4 h5 ih=>exact fun a b=>have k:=ih (fun t ht=>a t (.tail _ ht)) b; ⟨k.1,small_nod k.2⟩
 | br_ok h1 h2 h3 h4 ih=>exact fun a b=>have k:=ih (fun t ht=>a t (.tail _ ht)) b; ⟨fun t ht=>k.1 t (.tail _ ht),k.2⟩
 | lv_ok h1 h2 h3 ih1 ih2=>rename_i r; cases r<;>first|trivial|exact fun a b=>have k:=ih1 a b; ih2 k.1 k.2
 | ch_end h1=>exact fun a b=>⟨a,b⟩
 | ch_ok h1 h2 h3 h4 ih1 ih2=>rename_i r _ _ _; cases r<;>first|trivial|exact fun a b=>have k:=ih1 (fun t ht=>a t (.tail _ ht)) b; ih2 k.1 (small_nod k.2)
 | fo_no h1 h2 ih=>exact ih
 | fo_ok h1 h2 h3 h4 h5 h6 ih1 ih2 ih3=>exact fun a b =>
  have k:=ih1 a b;have k2:=ih2 (fun t ht=>k.1 t (.tail _ ht)) k.2
  have k3:=ih3 (fun t ht=>k2.1 t (.tail _ ht)) k2.2
  ⟨k3.1,small_nod k3.2⟩
 | _=>trivial
theorem smallP (s:ByteArray):SmallP s:=fun v out hr x hx=>by
 have:=(rd_small hr (lexS_small s) (by simp)).2 x hx
 omega
end Go.Proofs.YtaldobgfbkllfaaGreatDoor

namespace Go.Proofs.YtaldobgfbkllfaaGreatDoor
open Vai
variable [Gl]
set_option maxHeartbeats 0
set_option maxRecDepth 100000
def rsO (L:Int)(x:T)(i d:Int)(o:D)(p w:Int):AObj:=.row 101 7 [mkAgg [.t (.int .i64 L),.t x,.t (.int .i64 i),.t (.int .i64 d),o,.t (.int .i64 p),.t (.int .i64 w)]]
section
variable {L:Int}{x:T}{i d p w:Int}{o:D}{h:H}{P:Nat}(ho:h.objs P=some (rsO L x i d o p w))
include ho
theorem rs_els:(h.els P 1)=some (101,7,[mkAgg [.t (.int .i64 L),.t x,.t (.int .i64 i),.t (.int .i64 d),o,.t (.int .i64 p),.t (.int .i64 w)]]):=by simp [H.els,ho,rsO]
theorem rs_nil:nilCheckD h (.ptr P 0 0 1)=some (.ptr P 0 0 1):=by simp only [nilCheckD,rs_els ho]
theorem rs_f0:fieldAddrD Tryz.prog h 101 (.ptr P 0 0 1) 0=some (.ptr P 0 0 1):=by simp [-H.els,fieldAddrD,rs_els ho]
theorem rs_f1:fieldAddrD Tryz.prog h 101 (.ptr P 0 0 1) 1=some (.ptr P 0 1 1):=by simp [-H.els,fieldAddrD,rs_els ho]
theorem rs_f2:fieldAddrD Tryz.prog h 101 (.ptr P 0 0 1) 2=some (.ptr P 0 2 1):=by simp [-H.els,fieldAddrD,rs_els ho]
theorem rs_f3:fieldAddrD Tryz.prog h 101 (.ptr P 0 0 1) 3=some (.ptr P 0 3 1):=by simp [-H.els,fieldAddrD,rs_els ho]
theorem rs_f4:fieldAddrD Tryz.prog h 101 (.ptr P 0 0 1) 4=some (.ptr P 0 4 1):=by simp [-H.els,fieldAddrD,rs_els ho]
theorem rs_f5:fieldAddrD Tryz.prog h 101 (.ptr P 0 0 1) 5=some (.ptr P 0 5 1):=by simp [-H.els,fieldAddrD,rs_els ho]
theorem rs_0:loadD Tryz.prog h 3 (.ptr P 0 0 1)=some (.t (.int .i64 L)):=by simp [-mkAgg,loadD,H.els,ho,rsO,wholeArr,partD,mkAgg_cells]
end
section
variable {L:Int}{x:T}{i d p w:Int}{o:D}{h:H}{P:Nat}(ho:h.objs P=some (rsO L x i d o p w))(hx:x.cells=[x])(hd:o.cells=[o])
include ho hx
theorem rs_1:loadD Tryz.prog h 80 (.ptr P 0 1 1)=some (.t x):=by simp [-mkAgg,loadD,H.els,ho,rsO,wholeArr,partD,mkAgg_cells,hx]
theorem rs_2:loadD Tryz.prog h 3 (.ptr P 0 2 1)=some (.t (.int .i64 i)):=by simp [-mkAgg,loadD,H.els,ho,rsO,wholeArr,partD,mkAgg_cells,hx]
theorem rs_3:loadD Tryz.prog h 3 (.ptr P 0 3 1)=some (.t (.int .i64 d)):=by simp [-mkAgg,loadD,H.els,ho,rsO,wholeArr,partD,mkAgg_cells,hx]
theorem rs_4:loadD Tryz.prog h 22 (.ptr P 0 4 1)=some o:=by simp [-mkAgg,loadD,H.els,ho,rsO,wholeArr,partD,mkAgg_cells,hx]
include hd
theorem rs_6:loadD Tryz.prog h 3 (.ptr P 0 6 1)=some (.t (.int .i64 w)):=by simp [-mkAgg,loadD,H.els,ho,rsO,wholeArr,partD,mkAgg_cells,hx,hd]
theorem rs_s2 (e:Int):storeD Tryz.prog h 3 (.ptr P 0 2 1) (.t (.int .i64 e))=some (h.set P (rsO L x e d o p w)):=by
 have hm:h.mays P [D.t (.int .i64 e)]=true:=mays_trees h P [.int .i64 e];simp [-mkAgg,-H.els,-H.mays,storeD,rs_els ho,hm,okCells,wholeArr,mkAgg_cells,mkAgg_parts,splice,rsO,hx,hd]
theorem rs_s3 (e:Int):storeD Tryz.prog h 3 (.ptr P 0 3 1) (.t (.int .i64 e))=some (h.set P (rsO L x i e o p w)):=by
 have hm:h.mays P [D.t (.int .i64 e)]=true:=mays_trees h P [.int .i64 e];simp [-mkAgg,-H.els,-H.mays,storeD,rs_els ho,hm,okCells,wholeArr,mkAgg_cells,mkAgg_parts,splice,rsO,hx,hd]
theorem rs_s5 (p' w':Int):storeD Tryz.prog h 64 (.ptr P 0 5 1) (.t (.agg [.int .i64 p',.int .i64 w']))=some (h.set P (rsO L x i d o p' w')):=by
 have hm:h.mays P [D.t (.int .i64 p'),D.t (.int .i64 w')]=true:=mays_trees h P [.int .i64 p',.int .i64 w'];simp [-mkAgg,-H.els,-H.mays,storeD,rs_els ho,hm,okCells,wholeArr,mkAgg_cells,mkAgg_parts,splice,rsO,hx,hd]
theorem rs_s4 {o':D}(hd':o'.cells=[o'])(hm:h.may P o'=true):storeD Tryz.prog h 22 (.ptr P 0 4 1) o'=some (h.set P (rsO L x i d o' p w)):=by
 have hm':h.mays P [o']=true:=by simp only [H.mays,List.all_cons,hm,List.all_nil,Bool.and_self]
 simp [-mkAgg,-H.els,-H.mays,-H.may,storeD,rs_els ho,hd',hm',okCells,wholeArr,mkAgg_cells,mkAgg_parts,splice,rsO,hx,hd]
theorem rs_5:loadD Tryz.prog h 64 (.ptr P 0 5 1)=some (.t (.agg [.int .i64 p,.int .i64 w])):=by simp [-mkAgg,loadD,H.els,ho,rsO,wholeArr,partD,mkAgg_cells,hx,hd]; rfl
theorem rs_f51:fieldAddrD Tryz.prog h 64 (.ptr P 0 5 1) 1=some (.ptr P 0 6 1):=by simp [-H.els,fieldAddrD,rs_els ho]
end
end Go.Proofs.YtaldobgfbkllfaaGreatDoor
