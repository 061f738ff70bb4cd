import Derived.Test.YtaldobgfbkllfaaGreatDoorVaiD
import Derived.Defers
import Derived.Recover
set_option linter.unusedSimpArgs false
set_option linter.unusedVariables false
set_option linter.unusedSectionVars false
namespace Vai
open Go
variable [Gl]
structure Grd where
 k:FuncId
 c:FuncId
 fn:Func
 cfn:Func
 p:Tmp
 f:Tmp
 reg0:Code
 rest:Code
 r1:Tmp
 r2:Tmp
 crest:Code
def guardF (cx:Cx)(call:ACall)(it:Iter)(G:Grd)(pv:D)(st1:St)(v:T):Option (D × H) :=
 match code (cx.at G.c) call it G.crest ⟨G.cfn.ntmps,upd (upd (enterE [pv]) G.r1 (.t v)) G.r2 (.t v),st1.h⟩ with
 | some (.norm,st2)=>(resultsD cx.P { st1 with h:=st2.h } G.fn.results.toList).map fun d=>(d,st2.h)
 | _=>none
def guardR (cx:Cx)(call:ACall)(it:Iter)(G:Grd)(pv:D):CR→Option (D × H)
 | some (.norm,st1)=>guardF cx call it G pv st1 .nilIface
 | some (.ret,st1)=>guardF cx call it G pv st1 .nilIface
 | some (.pan x,st1)=>guardF cx call it G pv st1 x
 | _=>none
def guardA (cx:Cx)(call:ACall)(it:Iter)(G:Grd):ACall:=fun _ args h =>
 if args.length≤G.fn.ntmps then
  match code (cx.at G.k) call it G.reg0 ⟨G.fn.ntmps,enterE args,h⟩ with
  | some (.norm,st0)=>guardR cx call it G (st0.env G.p) (code (cx.at G.k) call it G.rest { st0 with env:=upd st0.env G.f .undef })
  | _=>none
 else none
structure Grd.OK (cx:Cx) (P:Program) (G:Grd):Prop where
 hf:P.funcs[G.k]?=some G.fn
 hcf:P.funcs[G.c]?=some G.cfn
 body:∃ i t1 t2 pos1 pos2 af1 af2,G.fn.body=some (.seq G.reg0 (.seq (.region i #[⟨some G.f,.makeFunc (.func G.c) #[] #[.tmp G.p],t1,pos1,af1,none⟩,⟨none,.defer ⟨.value (.tmp G.f),#[],#[]⟩,t2,pos2,af2,none⟩] false) G.rest))
 cbody:∃ i t1 t2 pos1 pos2 af1 af2,G.cfn.body=some (.seq (.region i #[⟨some G.r1,.call ⟨.builtin .recover,#[],#[]⟩,t1,pos1,af1,none⟩,⟨some G.r2,.assign (.tmp G.r1),t2,pos2,af2,none⟩] false) G.crest)
 ok0:okCode (cx.at G.k) G.reg0=true
 ok1:okCode (cx.at G.k) G.rest=true
 ok2:okCode (cx.at G.c) G.crest=true
 place:G.p<G.fn.ntmps∧G.f<G.fn.ntmps∧G.p≠G.f∧G.r1<G.cfn.ntmps∧G.r2<G.cfn.ntmps∧0<G.cfn.ntmps
 callable:callable P G.c=true
 cres:G.cfn.results = #[]
section
variable {P:Program}
theorem SR.enter {m:M}{w:World}{h:H}{args:List D}{vs:Array Value}{n:Nat}(hr:HR m w h)(hv:AV m w h.next args vs)(hle:args.length≤n) :
   SR [] m ⟨n,enterE args,h⟩ { tmps:=vs++Array.replicate (n-vs.size) undef,defers:=[] } w:=by
 have hl:=hv.1;have hg:∀ i,i<args.length→∃ (d:D) (v:Value),args[i]?=some d∧vs[i]?=some v∧enterE args i=d∧(vs++Array.replicate (n-vs.size) undef).getD i undef=v:=fun i hi=>by
   have hi':i<vs.size:=by omega
   refine ⟨args[i],vs[i],by simp [hi],by simp [hi'],by simp [enterE,hi],?_⟩
   simp [Array.getElem?_append,hi']
 refine ⟨hr,by simp; omega,fun i hi=>?_,fun i hi=>?_,rfl⟩
 · by_cases e:i<args.length
   · obtain ⟨d,v,h1,h2,h3,h4⟩:=hg i e
     simp only [h3,h4];exact (hv.2 i d v h1 h2).1
   · have:enterE args i = .undef:=by simp [enterE,List.getElem?_eq_none (by omega:args.length≤i)]
     simp only [this];exact .undef _
 · by_cases e:i<args.length
   · obtain ⟨d,v,h1,h2,h3,h4⟩:=hg i e
     simp only [h3];exact (hv.2 i d v h1 h2).2
   · have:enterE args i = .undef:=by simp [enterE,List.getElem?_eq_none (by omega:args.length≤i)]
     simp only [this];rfl
theorem clo_sound {cx:Cx}{call:ACall}{it:Iter}(hP:cx.P=P)(hmix:P.follows .mixedOrders=true)(hc:CallOK P call)(hit:ItOK P it){G:Grd}(hG:G.OK cx P){m:M}{w:World}{h:H}{pv:D}{u:Value}{v:T}{st2:St}
   (hr:HR m w h) (hpv:VR m w pv u) (hpr:pv.refsB h.next=true)
   (hcode:code (cx.at G.c) call it G.crest ⟨G.cfn.ntmps,upd (upd (enterE [pv]) G.r1 (.t v)) G.r2 (.t v),h⟩=some (.norm,st2))
   (md:FrameMode) (hmd:(md = .returning∧v = .nilIface)∨∃ x,md = .panicking [{ v:=x,recovered:=false }]∧TR w m.blocks v x) :
   CallsD P G.c #[u] md w fun e u' w'=>∃ z m',e = .returned z∧settle u' = .returning∧HR m' w' st2.h∧Ext h.next m w m' w'∧h.next≤st2.h.next∧st2.h.marks=h.marks:=by
 obtain ⟨i,t1,t2,pos1,pos2,af1,af2,hb⟩:=hG.cbody;refine callsD_of_wpS hG.hcf hb fun c₀ cs hu=>?_
 have hsr:=SR.enter (n:=G.cfn.ntmps) hr (args:=[pv]) (vs:=#[u]) ⟨rfl,fun i d v hd hv=>by
   match i with
   | 0=>cases hd; cases hv; exact ⟨hpv,hpr⟩
   | i+1=>simp at hd⟩ (by have:=hG.place.2.2.2.2.2; simpa using (show 1≤G.cfn.ntmps from this))
 generalize ({ tmps:=#[u]++Array.replicate (G.cfn.ntmps-(#[u]:Array Value).size) undef,defers:=[] }:Act)=a at hsr ⊢;have key:∀ (x:Value) (c1:Frame),TR w m.blocks v x→settle c1.mode = .returning→c1={ c₀ with mode:=c1.mode } →
    G.crest.wpS P (bodyPostS P G.cfn c₀ cs fun e u' w'=>∃ z m',e = .returned z∧settle u' = .returning∧HR m' w' st2.h∧Ext h.next m w m' w'∧h.next≤st2.h.next∧st2.h.marks=h.marks) ((a.put (some G.r1) x).put (some G.r2) x) (c1::cs) w:=by
   intro x c1 hx hs hc1;refine wpS_of_wp ?_;have hput:∀ {st:St} {a:Act} {t:Tmp},t<st.n→st.h=h→SR [] m st a w→SR [] m { st with env:=upd st.env t (.t v) } (a.put (some t) x) w:=by
    intro st a t ht hh hs;have:=hs.put (d:=.t v) (v:=x) (w':=w) (h':=st.h) (m':=m) ⟨hs.hr,.t hx,Ext.refl _ _ _,rfl,Nat.le_refl _,rfl⟩ (some t);exact this
   have hsr2:=hput (t:=G.r2) hG.place.2.2.2.2.1 rfl (hput (t:=G.r1) hG.place.2.2.2.1 rfl hsr);refine Code.wp_mono (fun e a' w' hq=>?_) (code_sound (cx:=cx.at G.c) (dfs:=[]) hP hmix hc hit G.crest _ _ _ m w _ hG.ok2 hcode hsr2)
   obtain ⟨rfl,m',hs',hl⟩:=hq;refine ⟨hs'.defers,c1.mode,by rw [←hc1],.tuple #[],by simp [results,hG.cres],.tuple #[],m',rfl,hs,hs'.hr,hl.ext,hl.next,hl.marks⟩
 apply wpS_seq;apply wpS_region;have h1:G.r1<a.tmps.size:=by rw [hsr.size]; exact hG.place.2.2.2.1
 rcases hmd with ⟨rfl,rfl⟩|⟨x,rfl,hx⟩
 · have k0:=key .nilIface c₀ .nilIface (by rw [hu]; rfl) rfl
   simp [wpOpsS,go_sem,recoverD,hu,Exit.thenS];simpa [Act.put,h1] using k0
 · have k0:=key x { c₀ with mode:=.panicking [{ v:=x,recovered:=true }] } hx rfl rfl
   simp [wpOpsS,go_sem,recoverD,hu,Exit.thenS];simpa [Act.put,h1] using k0
theorem fin_sound {cx:Cx}{call:ACall}{it:Iter}(hP:cx.P=P)(hmix:P.follows .mixedOrders=true)(hc:CallOK P call)(hit:ItOK P it){G:Grd}(hG:G.OK cx P){m0 m:M}{w0 w:World}{st0 st1:St}{h h':H}{d pv:D}{u:Value}{v:T}{a:Act}
   {dfs:List Deferred} (h1:SR dfs m st1 a w) (hl:Left m0 w0 st0 m w st1) (he:st0.h=h) (hpv:VR m w pv u) (hpr:pv.refsB st1.h.next=true) (hF:guardF cx call it G pv st1 v=some (d,h'))
   (md:FrameMode) (hmd:(md = .returning∧v = .nilIface)∨∃ x,md = .panicking [{ v:=x,recovered:=false }]∧TR w m.blocks v x) :
   Leaves P G.fn a.tmps (fun e w'=>∃ v m',e = .returned v∧Eff m0 w0 h d v w' h' m') [{ target:=.fn (.func G.c) #[u],args:=#[] }] md w:=by
 unfold guardF at hF;split at hF
 · rename_i st2 hcode
   obtain ⟨d0,hd0,he0⟩:=Option.map_eq_some_iff.1 hF;cases he0;rw [hP] at hd0;refine leaves_cons (f:=G.c) (args:=#[u]) (by rcases hmd with ⟨rfl,_⟩|⟨x,rfl,_⟩<;>simp) ?_ ((clo_sound hP hmix hc hit hG h1.hr hpv hpr hcode md hmd).mono fun e u' w' hq=>?_)
   · have:=callable_run hG.callable #[u] w
     simpa [invoke] using this
   · obtain ⟨z,m',rfl,hs,hr2,hx2,hn2,hm2⟩:=hq
     have h2:SR dfs m' { st1 with h:=st2.h } a w':=⟨hr2,h1.size,fun i hi=>hx2.vr (h1.env i hi) (h1.refs i hi),fun i hi=>D.refsB_mono hn2 _ (h1.refs i hi),h1.defers⟩
     have hl2:Left m0 w0 st0 m' w' { st1 with h:=st2.h }:=hl.trans ⟨hx2,hn2,hm2,rfl⟩
     obtain ⟨v,hv1,hv2,hv3⟩:=results_sound h2 hd0;simp only [hs];refine ⟨v,hv1,v,m',rfl,⟨hr2,hv2,?_,hv3,?_,?_⟩⟩
     · have:=hl2.ext; rw [he] at this; exact this
     · have:=hl2.next; rw [he] at this; exact this
     · have:=hl2.marks; rw [he] at this; exact this
 · cases hF
theorem guard_sound {cx:Cx}{call:ACall}{it:Iter}(hP:cx.P=P)(hmix:P.follows .mixedOrders=true)(hc:CallOK P call)(hit:ItOK P it){G:Grd}(hG:G.OK cx P){args:List D}{h h':H}{d:D}{m:M}{w:World}{vs:Array Value}(hr:HR m w h)(hv:AV m w h.next args vs)
   (hA:guardA cx call it G G.k args h=some (d,h')):Calls P G.k vs w fun e w'=>∃ v m',e = .returned v∧Eff m w h d v w' h' m':=by
 obtain ⟨i,t1,t2,pos1,pos2,af1,af2,hb⟩:=hG.body;unfold guardA at hA;split at hA
 case isFalse=>cases hA
 rename_i hle;split at hA
 case h_2=>cases hA
 rename_i st0 hcode0;refine calls_of_wp_defers hG.hf hb ?_;have hsr:=SR.enter hr hv hle;refine wp_seq (Code.wp_mono (fun e a1 w1 hq=>?_) (code_sound (cx:=cx.at G.k) (dfs:=[]) hP hmix hc hit G.reg0 _ _ _ m w _ hG.ok0 hcode0 hsr))
 obtain ⟨rfl,m1,h1,hl1⟩:=hq;have hmf:∀ (fn:Fn) (first cap:Array Value) (w:World),(Instr.makeFunc fn first cap).run P w = .ok (.func fn first cap) w:=fun _ _ _ _=>rfl
 refine wp_seq (wp_region_list ?_);have hn:st0.n=G.fn.ntmps:=hl1.n;have hpl:G.p<st0.n∧G.f<st0.n:=by rw [hn]; exact ⟨hG.place.1,hG.place.2.1⟩
 have hpv:=h1.env G.p hpl.1;have hpr:=h1.refs G.p hpl.1;have hf1:G.f<a1.tmps.size:=by rw [h1.size]; exact hpl.2
 have hd1:=h1.defers;have h2:SR [{ target:=.fn (.func G.c) #[a1.tmps.getD G.p undef],args:=#[] }] m1 { st0 with env:=upd st0.env G.f .undef } { tmps:=a1.tmps.setIfInBounds G.f (.func (.func G.c) #[] #[a1.tmps.getD G.p undef]),defers:=[{ target:=.fn (.func G.c) #[a1.tmps.getD G.p undef],args:=#[] }] } w1:=by
   refine ⟨h1.hr,by simpa using h1.size,fun j hj=>?_,fun j hj=>?_,rfl⟩
   · by_cases e:j=G.f
     · subst e; simp only [upd_same]; exact .undef _
     · simp only [upd_ne _ _ e]
       have:=h1.env j hj;rw [show (a1.tmps.setIfInBounds G.f (.func (.func G.c) #[] #[a1.tmps.getD G.p undef])).getD j undef=a1.tmps.getD j undef from by simp [Array.getElem?_setIfInBounds,Ne.symm e]]
       exact this
   · by_cases e:j=G.f
     · subst e; simp only [upd_same]; rfl
     · simp only [upd_ne _ _ e]; exact h1.refs j hj
 have fin:∀ {x:X} {st1:St} {a3:Act} {w3:World} {m3:M} (v:T) (md:FrameMode),SR [{ target:=.fn (.func G.c) #[a1.tmps.getD G.p undef],args:=#[] }] m3 st1 a3 w3→Left m1 w1 { st0 with env:=upd st0.env G.f .undef } m3 w3 st1 →
     guardF cx call it G (st0.env G.p) st1 v=some (d,h')→((md = .returning∧v = .nilIface)∨∃ x,md = .panicking [{ v:=x,recovered:=false }]∧TR w3 m3.blocks v x) →
     Leaves P G.fn a3.tmps (fun e w'=>∃ v m',e = .returned v∧Eff m w h d v w' h' m') a3.defers md w3:=by
   intro x st1 a3 w3 m3 v md h3 hl3 hF hmd;rw [h3.defers];exact fin_sound hP hmix hc hit hG h3 (hl1.trans ⟨hl3.ext,hl3.next,hl3.marks,hl3.n⟩) rfl (hl3.ext.vr hpv hpr) (D.refsB_mono hl3.next _ hpr) hF md hmd
 generalize hR:(fun (e:Ending) (w':World)=>∃ v m',e = .returned v∧Eff m w h d v w' h' m')=R at fin ⊢
 simp [wpList,Oper.wp,go_sem,hmf,hf1,hd1];refine .inl (.inl ?_);rw [←Array.getD_eq_getD_getElem?];unfold guardR at hA;split at hA
 · rename_i st1 hcode1
   refine Code.wp_mono (fun e a3 w3 hq=>?_) (code_sound (cx:=cx.at G.k) hP hmix hc hit G.rest _ _ _ m1 w1 _ hG.ok1 hcode1 h2)
   obtain ⟨rfl,m3,h3,hl3⟩:=hq;exact fin (x:=.norm) .nilIface .returning h3 hl3 hA (.inl ⟨rfl,rfl⟩)
 · rename_i st1 hcode1
   refine Code.wp_mono (fun e a3 w3 hq=>?_) (code_sound (cx:=cx.at G.k) hP hmix hc hit G.rest _ _ _ m1 w1 _ hG.ok1 hcode1 h2)
   obtain ⟨rfl,m3,h3,hl3⟩:=hq;exact fin (x:=.norm) .nilIface .returning h3 hl3 hA (.inl ⟨rfl,rfl⟩)
 · rename_i x st1 hcode1
   refine Code.wp_mono (fun e a3 w3 hq=>?_) (code_sound (cx:=cx.at G.k) hP hmix hc hit G.rest _ _ _ m1 w1 _ hG.ok1 hcode1 h2)
   obtain ⟨u,m3,rfl,hp⟩:=hq;exact fin (x:=.norm) x (.panicking [{ v:=u,recovered:=false }]) hp.sr hp.left hA (.inr ⟨u,rfl,hp.tr⟩)
 · cases hA
end
end Vai

namespace Vai
open Go
open Go.RowKit (Below)
variable [Gl]{dfs:List Deferred}
def plainOp (P:Program)(o:Oper):Bool:=o.guard.isNone&&match o.op with
 | .move _|.assign _=>true
 | .call c=>(match c.callee with
  | .builtin .len=>(match tk P (c.argTypes.getD 0 0) with|.slice _|.str=>true|_=>false)
  | _=>false)
 | _=>false
def plainAt (P:Program)(ops:Array Oper)(j:Nat):Bool:=match ops[j]? with
 | some o=>plainOp P o
 | none=>false
def orders (P:Program)(ops:Array Oper):Nat→Array Bool→List (List Nat)
 | 0,listed=>if Region.ready .any ops listed=[] then [[]] else [[ops.size]]
 | n+1,listed=>if Region.ready .any ops listed=[] then [[]] else
  match (Region.ready .any ops listed).find? (fun j=>Region.free .any ops listed j&&plainAt P ops j) with
  | some j=>(orders P ops n (listed.setIfInBounds j true)).map (j :: ·)
  | none=>(Region.ready .any ops listed).flatMap fun j=>(orders P ops n (listed.setIfInBounds j true)).map (j :: ·)
def opSeq (cx:Cc)(call:ACall)(ops:Array Oper):List Nat→St→Option St
 | [],st=>some st
 | i::l,st=>match ops[i]? with
  | some o=>(match oper cx call ops o st with
   | some st'=>opSeq cx call ops l st'
   | none=>none)
  | none=>none
section
variable {P:Program}
theorem lenD_any {w:World}{m:M}{h:H}{t:TypeId}{a d:D}{u:Value}(hr:HR m w h)(hu:VR m w a u)(hb:lenD P h t a=some d)(hk:(match tk P t with|.slice _|.str=>true|_=>false)=true)(ts:Array TypeId)(ht:ts.getD 0 0=t)(h0:ts.size≠0)(ty:TypeId) :
  ∃ z,(∀ w2:World,(Builtin.len_ ts ty #[u]).run P w2 = .ok z w2)∧VR m w d z:=by
 have hts:ts[0]?=some t:=getD_zero ht h0
 cases a with
 | t x =>
  cases hu with
  | t hx =>
  cases x with
  | nilSlice =>
   simp only [lenD] at hb;cases hk:tk P t<;>simp only [hk] at hb<;>cases hb
   cases hx;exact ⟨_,fun w2=>by simp [Builtin.len_,hts,run_underlying (tk_slice hk)]; rfl,.t (.int _ _)⟩
  | slice es =>
   simp only [lenD] at hb;cases hk:tk P t<;>simp only [hk] at hb<;>cases hb
   cases hx with
   | slice hl =>
   subst hl;exact ⟨_,fun w2=>by simp [Builtin.len_,hts,run_underlying (tk_slice hk)]; rfl,.t (.int _ _)⟩
  | str s =>
   simp only [lenD] at hb;cases hk:tk P t<;>simp only [hk] at hb<;>cases hb
   cases hx;exact ⟨_,fun w2=>by simp [Builtin.len_,hts,run_underlying (tk_str hk)]; rfl,.t (.int _ _)⟩
  | nilMap =>
   simp only [lenD] at hb;cases h1:tk P t<;>simp only [h1] at hb hk<;>cases hb
   cases hk
  | _=>simp [lenD] at hb
 | row id i len top =>
  unfold lenD at hb
  cases he:h.els id top with
  | none=>cases h1:tk P t<;>simp only [h1,he] at hb<;>cases hb
  | some y =>
   cases hk:tk P t<;>simp only [hk,he] at hb<;>cases hb
   obtain ⟨bt,s,es⟩:=y;obtain ⟨x,hx,htop,_⟩:=els_at hr he
   cases hu with
   | row h1 hp =>
   obtain ⟨_,ad,cap,rfl,_⟩:=(hp x hx).2 htop;exact ⟨_,fun w2=>by simp [Builtin.len_,hts,run_underlying (tk_slice hk)]; rfl,.t (.int _ _)⟩
 | map id =>
  simp only [lenD] at hb;cases h1:tk P t<;>simp only [h1] at hb hk<;>first|(cases hb; done)|(cases hk; done)
 | _=>simp [lenD] at hb
theorem plain_yields {cx:Cc}{call:ACall}(hP:cx.P=P){m:M}{w:World}{st st':St}{a:Act}(h:SR dfs m st a w){ops:Array Oper}{o:Oper}(hpl:plainOp P o=true)(ho:oper cx call ops o st=some st') :
  ∃ v,Yields P ops o v a∧SR dfs m st' (a.put o.dst v) w∧Left m w st m w st':=by
 obtain ⟨dst,op,ty,pos,after,guard⟩:=o;unfold plainOp at hpl;simp only [Bool.and_eq_true,Option.isNone_iff_eq_none] at hpl;obtain ⟨rfl,hpl⟩:=hpl;simp only [oper,runOper] at ho;split at ho
 case h_2=>cases ho
 rename_i ds hds;have hov:=evs_sound h hds;have fin:∀ {d:D} {v:Value},thenR st dst (some (d,st.h))=some st'→VR m w d v→d.refsB st.h.next=true→(∀ w2:World,(execOp a.eval ⟨dst,op,ty,pos,after,none⟩).run P w2 = .ok (.value v) w2) →
   ∃ v,Yields P ops ⟨dst,op,ty,pos,after,none⟩ v a∧SR dfs m st' (a.put dst v) w∧Left m w st m w st':=by
  intro d v hth hv hrf hex;simp only [thenR,Option.some.injEq] at hth;subst hth;refine ⟨v,.inl ⟨rfl,hex⟩,h.put (h':=st.h) ⟨h.hr,hv,Ext.refl _ _ _,hrf,Nat.le_refl _,rfl⟩ dst,?_⟩;exact ⟨Ext.refl _ _ _,by rw [(put_h _ _ _).1]; exact Nat.le_refl _,by rw [(put_h _ _ _).1],by rw [(put_h _ _ _).2]⟩
 cases op<;>simp only at hpl<;>try (cases hpl; done)
 case move x =>
  simp only [stepD,Op.kindD,pureD] at ho;split at ho
  case h_2=>cases ho
  rename_i d;obtain ⟨h1,h2⟩:=hov.get (i:=0) (x:=x) rfl rfl;exact fin ho h1 h2 fun w2=>by simp [execOp]
 case assign x =>
  simp only [stepD,Op.kindD,pureD] at ho;split at ho
  case h_2=>cases ho
  rename_i d;obtain ⟨h1,h2⟩:=hov.get (i:=0) (x:=x) rfl rfl;exact fin ho h1 h2 fun w2=>by simp [execOp]
 case call c =>
  obtain ⟨callee,args,tys⟩:=c;cases callee<;>simp only at hpl<;>try (cases hpl; done)
  rename_i b;cases b<;>simp only at hpl<;>try (cases hpl; done)
  simp only [stepD,Op.kindD,readD] at ho;have hops:=callee_args ⟨.builtin .len,args,tys⟩ .len rfl;rw [hops] at hov;split at ho
  case h_2=>cases ho
  rename_i d0;split at ho
  case isFalse=>cases ho
  rename_i hts
  cases hb:lenD cx.P st.h (tys.getD 0 0) d0 with
  | none=>rw [hb] at ho; cases ho
  | some d =>
  rw [hb] at ho;rw [hP] at hb;have hl:args.size=1:=by simpa using hov.1
  obtain ⟨a0,rfl⟩:=Array.size_eq_one_iff.1 hl;obtain ⟨h1,_⟩:=hov.get (i:=0) (x:=a0) (by simp) rfl
  obtain ⟨z,hz,hzr⟩:=lenD_any (P:=P) h.hr h1 hb hpl tys rfl hts ty;exact fin ho hzr (lenD_refs hb) fun w2=>by simp [execOp,resolve,invoke,builtin,hz]
theorem orders_some {ops:Array Oper}:∀ (n:Nat) (listed:Array Bool),∃ l,l∈orders P ops n listed
 | 0,listed=>by unfold orders; split<;>exact ⟨_,List.mem_singleton_self _⟩
 | n+1,listed=>by
  unfold orders;split
  · exact ⟨_,List.mem_singleton_self _⟩
  · rename_i hne
    split
    · rename_i j hj
      obtain ⟨l,hl⟩:=orders_some n (listed.setIfInBounds j true);exact ⟨_,List.mem_map.2 ⟨l,hl,rfl⟩⟩
    · cases hr:Region.ready .any ops listed with
      | nil=>exact absurd hr hne
      | cons j r =>
       obtain ⟨l,hl⟩:=orders_some n (listed.setIfInBounds j true);exact ⟨_,List.mem_flatMap.2 ⟨j,List.mem_cons_self,List.mem_map.2 ⟨l,hl,rfl⟩⟩⟩
theorem orders_sound {cx:Cc}{call:ACall}(hP:cx.P=P)(hc:CallOK P call){ops:Array Oper}(hns:Region.noSelect ops=true){Q:Exit→Act→World→Prop}(hp:∀ c a w,¬ Q (.panic c) a w):∀ (n:Nat) (listed:Array Bool) {m:M} {w:World} {st:St} {a:Act} (_:SR dfs m st a w)
  (_:∀ l∈orders P ops n listed,∃ fin,opSeq cx call ops l st=some fin∧∀ a' w' m',SR dfs m' fin a' w'→Left m w st m' w' fin→Q .normal a' w'),wpAny P .any ops Q n listed a w
 | 0,listed,m,w,st,a,h,hQ=>by
  by_cases hr:Region.ready .any ops listed=[]
  · refine ⟨hr,?_⟩
    obtain ⟨fin,h1,h2⟩:=hQ [] (by simp [orders,hr])
    cases h1;exact h2 _ _ m h (Left.refl _ _ _)
  · obtain ⟨fin,h1,h2⟩:=hQ [ops.size] (by simp [orders,hr])
    simp [opSeq] at h1
 | n+1,listed,m,w,st,a,h,hQ=>by
  unfold orders at hQ;split at hQ
  · rename_i hr
    obtain ⟨fin,h1,h2⟩:=hQ [] (by simp)
    cases h1;exact wpAny_done hr (h2 _ _ m h (Left.refl _ _ _)) _
  · rename_i hne
    split at hQ
    · rename_i j hj
      have hj1:=List.find?_some hj;have hj2:=List.mem_of_find?_eq_some hj;simp only [Bool.and_eq_true] at hj1;obtain ⟨hfree,hpl⟩:=hj1;unfold plainAt at hpl
      cases ho:ops[j]? with
      | none=>rw [ho] at hpl; cases hpl
      | some o =>
      rw [ho] at hpl;simp only at hpl;have hone:∃ st1,oper cx call ops o st=some st1:=by
        have:∃ l,l∈orders P ops n (listed.setIfInBounds j true):=orders_some n _;obtain ⟨l,hl⟩:=this;obtain ⟨fin,h1,_⟩:=hQ (j::l) (List.mem_map.2 ⟨l,hl,rfl⟩);simp only [opSeq,ho] at h1
        cases hop:oper cx call ops o st with
        | none=>rw [hop] at h1; cases h1
        | some st1=>exact ⟨st1,rfl⟩
      obtain ⟨st1,hop⟩:=hone;obtain ⟨v,hy,h1,hl1⟩:=plain_yields hP h hpl hop;refine wpAny_take ho hns hfree (by simpa using hj2) (fun c a w hq=>absurd hq (hp _ _ _)) hy ?_
      refine orders_sound hP hc hns hp n _ h1 fun l hl=>?_
      obtain ⟨fin,h2,h3⟩:=hQ (j::l) (List.mem_map.2 ⟨l,hl,rfl⟩);simp only [opSeq,ho,hop] at h2;exact ⟨fin,h2,fun a' w' m' h4 hl4=>h3 a' w' m' h4 (hl1.trans hl4)⟩
    · refine wpAny_all rfl hne fun j hj=>?_
      obtain ⟨_,o,ho,_⟩:=mem_ready.1 hj;have hone:∃ st1,oper cx call ops o st=some st1:=by
        obtain ⟨l,hl⟩:=orders_some (P:=P) (ops:=ops) n (listed.setIfInBounds j true);obtain ⟨fin,h1,_⟩:=hQ (j::l) (List.mem_flatMap.2 ⟨j,hj,List.mem_map.2 ⟨l,hl,rfl⟩⟩);simp only [opSeq,ho] at h1
        cases hop:oper cx call ops o st with
        | none=>rw [hop] at h1; cases h1
        | some st1=>exact ⟨st1,rfl⟩
      obtain ⟨st1,hop⟩:=hone;have:=oper_sound hP hc h hop (K:=wpAny P .any ops Q n (listed.setIfInBounds j true)) (Q:=Q) fun a' w' m' h1 hl1=>by
        refine orders_sound hP hc hns hp n _ h1 fun l hl=>?_
        obtain ⟨fin,h2,h3⟩:=hQ (j::l) (List.mem_flatMap.2 ⟨j,hj,List.mem_map.2 ⟨l,hl,rfl⟩⟩);simp only [opSeq,ho,hop] at h2;exact ⟨fin,h2,fun a' w' m' h4 hl4=>h3 a' w' m' h4 (hl1.trans hl4)⟩
      unfold wpOp;simp only [ho];split
      · rename_i hw; rw [if_pos hw] at this; exact .inl this
      · rename_i hw; rw [if_neg hw] at this; exact this
structure Alt where
 k:FuncId
 fn:Func
 pre1:Code
 pre2:Code
 ops:Array Oper
 rest:Code
def flatEnd:Option (D × H)→Option T
 | some (.t x,_)=>if x.flat=true then some x else none
 | _=>none
def sameAll (x:T):List (Option T)→Bool
 | []=>true
 | some y::l=>T.beq x y&&sameAll x l
 | none::_=>false
def altAll:List (Option T)→Option T
 | some x::l=>if sameAll x l=true then some x else none
 | _=>none
def altOne (cx:Cx)(call:ACall)(it:Iter)(G:Alt)(st:St)(l:List Nat):Option T:=match opSeq (cx.at G.k) call G.ops l st with
 | some st3=>flatEnd (endC cx.P G.fn.results.toList (code (cx.at G.k) call it G.rest st3))
 | none=>none
def altRun (cx:Cx)(call:ACall)(it:Iter)(G:Alt)(ords:List (List Nat)):CR→Option T
 | some (.norm,st2)=>altAll (ords.map (altOne cx call it G st2))
 | r=>flatEnd (endC cx.P G.fn.results.toList r)
def altA (cx:Cx)(call:ACall)(it:Iter)(G:Alt)(ords:List (List Nat)):ACall:=fun _ args h =>
 if h.next=0∧args.length≤G.fn.ntmps then
  (altRun cx call it G ords (code (cx.at G.k) call it (.seq G.pre1 G.pre2) ⟨G.fn.ntmps,enterE args,h⟩)).map fun x=>(.t x,h)
 else none
structure Alt.OK (cx:Cx) (P:Program) (G:Alt) (ords:List (List Nat)):Prop where
 hf:P.funcs[G.k]?=some G.fn
 body:∃ i,G.fn.body=some (.seq G.pre1 (.seq G.pre2 (.seq (.region i G.ops true) G.rest)))
 ok1:okCode (cx.at G.k) G.pre1=true
 ok2:okCode (cx.at G.k) G.pre2=true
 ok3:okCode (cx.at G.k) G.rest=true
 ns:Region.noSelect G.ops=true
 ords:orders P G.ops G.ops.size (Array.replicate G.ops.size false)=ords
theorem sameAll_spec {x:T}:∀ {l:List (Option T)},sameAll x l=true→∀ y∈l,y=some x
 | [],_,y,hy=>by cases hy
 | none::l,h,y,hy=>by cases h
 | some z::l,h,y,hy=>by
  simp only [sameAll,Bool.and_eq_true] at h;rcases List.mem_cons.1 hy with rfl|hy
  · rw [T.beq_eq _ _ h.1]
  · exact sameAll_spec h.2 y hy
theorem altAll_spec {x:T}{l:List (Option T)}(h:altAll l=some x):∀ y∈l,y=some x:=by
 cases l with
 | nil=>cases h
 | cons z l =>
  cases z with
  | none=>cases h
  | some z =>
   simp only [altAll] at h;split at h
   · rename_i hs
     cases h;intro y hy;rcases List.mem_cons.1 hy with rfl|hy
     · rfl
     · exact sameAll_spec hs y hy
   · cases h
theorem flat_end {m0 m:M}{w0 w:World}{h:H}{fn:Func}{st0 st:St}{a:Act}(h0:h.next=0)(hr0:HR m0 w0 h)(he:st0.h=h)(hs:SR [] m st a w)(hl:Left m0 w0 st0 m w st){x:T}{hx:H}(hd:(resultsD P st fn.results.toList).map (fun d=>(d,st.h))=some (.t x,hx))(hf:x.flat=true) :
   ∃ v,(results fn a.tmps).run P w = .ok v w∧∃ v' m',(Ending.returned v = .returned v')∧Eff m0 w0 h (.t x) v' w h m':=by
 obtain ⟨d0,hd0,he0⟩:=Option.map_eq_some_iff.1 hd;cases he0;obtain ⟨v,hv1,hv2,hv3⟩:=results_sound hs hd0;have hno:∀ id,h.objs id=none:=fun id=>by
   cases ho:h.objs id with
   | none=>rfl
   | some o=>exact absurd (hr0.objLt ho) (by omega)
 have hm0:∀ id,m0 id=none:=fun id=>by
   cases ho:m0 id with
   | none=>rfl
   | some y=>exact absurd (hr0.dom id y ho).2 (by omega)
 have hext:=hl.ext;refine ⟨v,hv1,v,m0,rfl,⟨⟨fun i o ho=>?_,fun i y hy=>hr0.dom i y hy,fun i i' y y' hy=>?_,fun i y hy=>hr0.far i y hy,fun k hk=>Nat.lt_of_lt_of_le (hr0.old k hk) hext.size,hr0.below,hr0.marks,?_⟩,?_,?_,rfl,Nat.le_refl _,rfl⟩⟩
 · rw [hno] at ho; cases ho
 · rw [hm0] at hy; cases hy
 · exact (hr0.glob.step hext).sub fun k hk=>hk.elim (fun ⟨i,y,hy,hb⟩=>by rw [hm0] at hy; cases hy) fun hF=>.inr (by rw [hext.away]; exact hF)
 · cases hv2 with
   | t hx=>exact .t (flat_tr x v hx hf)
 · exact ⟨hext.os,hext.tape,hext.output,hext.size,hext.keep,rfl,fun k y hk hy=>⟨y,hy,.inl rfl⟩,fun k y hy=>.inl ⟨k,y,hy,rfl⟩⟩
theorem flatEnd_spec {r:Option (D × H)}{x:T}(h:flatEnd r=some x):∃ hx,r=some (.t x,hx)∧x.flat=true:=by
 unfold flatEnd at h;split at h
 · split at h
   · rename_i hf; cases h; exact ⟨_,rfl,hf⟩
   · cases h
 · cases h
theorem alt_sound {cx:Cx}{call:ACall}{it:Iter}(hP:cx.P=P)(hmix:P.follows .mixedOrders=true)(hc:CallOK P call)(hit:ItOK P it){G:Alt}{ords:List (List Nat)}(hG:G.OK cx P ords){args:List D}{h h':H}{d:D}{m:M}{w:World}{vs:Array Value}(hr:HR m w h)(hv:AV m w h.next args vs)
   (hA:altA cx call it G ords G.k args h=some (d,h')):Calls P G.k vs w fun e w'=>∃ v m',e = .returned v∧Eff m w h d v w' h' m':=by
 obtain ⟨i,hb⟩:=hG.body;unfold altA at hA;split at hA
 case isFalse=>cases hA
 rename_i hle;obtain ⟨x,hA1,he⟩:=Option.map_eq_some_iff.1 hA;cases he;clear hA;have hA:=hA1;clear hA1;refine calls_of_wp hG.hf hb ?_;have hsr:=SR.enter hr hv hle.2;generalize hst0:(⟨G.fn.ntmps,enterE args,h⟩:St)=st0 at hA hsr;have hst0h:st0.h=h:=by rw [←hst0]
 generalize ({ tmps:=vs++Array.replicate (G.fn.ntmps-vs.size) undef,defers:=[] }:Act)=a0 at hsr ⊢
 -- how it ends
 have fin:∀ {x':X} {st:St} {e:Exit} {a:Act} {w':World},flatEnd (endC cx.P G.fn.results.toList (some (x',st)))=some x→XQ [] st0 m w x' st e a w'→bodyPost P G.fn (fun e w'=>∃ v m',e = .returned v∧Eff m w h (.t x) v w' h m') e a w':=by
   intro x' st e a w' hfe hq;obtain ⟨hx,h1,hf⟩:=flatEnd_spec hfe
   cases x' with
   | norm =>
    obtain ⟨rfl,m1,hs,hl⟩:=hq;rw [hP] at h1;obtain ⟨v,g1,v',m',g2,g3⟩:=flat_end (fn:=G.fn) hle.1 hr hst0h hs hl h1 hf;exact ⟨hs.defers,v,g1,v',m',g2,g3⟩
   | ret =>
    obtain ⟨rfl,m1,hs,hl⟩:=hq;rw [hP] at h1;obtain ⟨v,g1,v',m',g2,g3⟩:=flat_end (fn:=G.fn) hle.1 hr hst0h hs hl h1 hf;exact ⟨hs.defers,v,g1,v',m',g2,g3⟩
   | exit i=>cases h1
   | pan y=>cases h1
 have pre:∀ {c:Code} {x':X} {st1:St} {Q:Exit→Act→World→Prop},okCode (cx.at G.k) c=true→code (cx.at G.k) call it c st0=some (x',st1)→(∀ e a w',XQ [] st0 m w x' st1 e a w'→Q e a w')→c.wp P Q a0 w :=
   fun hok hcd hQ=>Code.wp_mono (fun e a w' hq=>hQ e a w' hq) (code_sound (cx:=cx.at G.k) (dfs:=[]) hP hmix hc hit _ _ _ _ m w _ hok hcd hsr)
 cases hc1:code (cx.at G.k) call it G.pre1 st0 with
 | none=>simp only [code,thenC,hc1,altRun,endC,flatEnd] at hA; cases hA
 | some r =>
 obtain ⟨x1,st1⟩:=r;refine wp_seq (pre hG.ok1 hc1 fun e a1 w1 hq=>?_)
 by_cases hx1:x1 = .norm
 case neg =>
   have hA':flatEnd (endC cx.P G.fn.results.toList (some (x1,st1)))=some x:=by
    simp only [code,thenC,hc1] at hA;cases x1<;>first|exact absurd rfl hx1|exact hA
   have hne:e ≠ .normal:=by
    cases x1 with
    | norm=>exact absurd rfl hx1
    | ret=>rw [hq.1]; simp
    | exit i=>rw [hq.1]; simp
    | pan y=>obtain ⟨v,m',rfl,_⟩:=hq; simp
   have:=fin hA' hq;cases e<;>first|exact absurd rfl hne|exact this
 subst hx1;obtain ⟨rfl,m1,h1,hl1⟩:=hq
 cases hc2:code (cx.at G.k) call it G.pre2 st1 with
 | none=>simp only [code,thenC,hc1,hc2,altRun,endC,flatEnd] at hA; cases hA
 | some r =>
 obtain ⟨x2,st2⟩:=r;refine wp_seq (Code.wp_mono (fun e a2 w2 hq=>?_) (code_sound (cx:=cx.at G.k) (dfs:=[]) hP hmix hc hit _ _ _ _ m1 w1 _ hG.ok2 hc2 h1))
 have hq:=hq.mono hl1;by_cases hx2:x2 = .norm
 case neg =>
   have hA':flatEnd (endC cx.P G.fn.results.toList (some (x2,st2)))=some x:=by
    simp only [code,thenC,hc1,hc2] at hA;cases x2<;>first|exact absurd rfl hx2|exact hA
   have hne:e ≠ .normal:=by
    cases x2 with
    | norm=>exact absurd rfl hx2
    | ret=>rw [hq.1]; simp
    | exit i=>rw [hq.1]; simp
    | pan y=>obtain ⟨v,m',rfl,_⟩:=hq; simp
   have:=fin hA' hq;cases e<;>first|exact absurd rfl hne|exact this
 subst hx2;obtain ⟨rfl,m2,h2,hl2⟩:=hq;simp only [code,thenC,hc1,hc2,altRun] at hA
 -- the region
 have hall:=altAll_spec hA;refine wp_seq (Code.wp_mono (fun e a3 w3 hq=>?_) (P:=P) (Q:=fun e a3 w3=>e = .normal∧∃ l∈ords,∃ st3 m3,opSeq (cx.at G.k) call G.ops l st2=some st3∧SR [] m3 st3 a3 w3∧Left m w st0 m3 w3 st3) ?_)
 · obtain ⟨rfl,l,hl,st3,m3,hs3,h3,hl3⟩:=hq
   have hone:altOne cx call it G st2 l=some x:=hall _ (List.mem_map.2 ⟨l,hl,rfl⟩);simp only [altOne,hs3] at hone
   cases hc3:code (cx.at G.k) call it G.rest st3 with
   | none=>rw [hc3] at hone; cases hone
   | some r =>
    obtain ⟨x4,st4⟩:=r;rw [hc3] at hone;exact Code.wp_mono (fun e a4 w4 hq=>fin hone (hq.mono hl3)) (code_sound (cx:=cx.at G.k) (dfs:=[]) hP hmix hc hit _ _ _ _ m3 w3 _ hG.ok3 hc3 h3)
 · refine wp_region_any hmix ?_
   have hb:Below w2.heap.size w2 { w2 with drawn:=w2.drawn+1 }:=⟨rfl,rfl,rfl,Nat.le_refl _,fun _ _=>rfl⟩
   have hw:SR [] m2 st2 a2 { w2 with drawn:=w2.drawn+1 }:=⟨h2.hr.below_ hb,h2.size,fun i hi=>(h2.env i hi).bel hb,h2.refs,h2.defers⟩
   refine orders_sound (cx:=cx.at G.k) hP hc hG.ns (fun c a w hq=>by cases hq.1) _ _ hw fun l hl=>?_
   rw [hG.ords] at hl;have hone:altOne cx call it G st2 l=some x:=hall _ (List.mem_map.2 ⟨l,hl,rfl⟩);unfold altOne at hone
   cases hs3:opSeq (cx.at G.k) call G.ops l st2 with
   | none=>rw [hs3] at hone; cases hone
   | some st3 =>
    refine ⟨st3,rfl,fun a3 w3 m3 h3 hl3=>⟨rfl,l,hl,st3,m3,hs3,h3,hl2.trans ⟨⟨hl3.ext.os,hl3.ext.tape,hl3.ext.output,hl3.ext.size,hl3.ext.keep,hl3.ext.away,hl3.ext.refs,hl3.ext.newb⟩,hl3.next,hl3.marks,hl3.n⟩⟩⟩
end
end Vai

namespace Vai
open Go
variable [Gl]
def fnAt0 (P:Program)(k:Nat):Option Func:=P.funcs[k]?
def fnAt (P:Program)(k:Nat):Option Func:=canon fnAt0 P k
theorem fnAt_eq (P:Program)(k:Nat):fnAt P k=P.funcs[k]?:=canon_eq fnAt0 _ _
def funcQ (cx:Cx)(okT:Nat)(call:ACall)(it:Iter)(k:FuncId)(args:List D)(h:H):Option (D × H):=match fnAt cx.P k with
 | some fn=>if okT.testBit k=true∧args.length≤fn.ntmps then
   endC cx.P fn.results.toList (code (cx.at k) call it (bodyOf fn) ⟨fn.ntmps,enterE args,h⟩)
  else none
 | none=>none
def callQ (cx:Cx)(okT:Nat)(prim:FuncId→Option ACall):Nat→ACall
 | 0,_,_,_=>none
 | n+1,k,args,h=>match prim k with
  | some g=>g k args h
  | none=>funcQ cx okT (callQ cx okT prim n) (iter n) k args h
def okAll (cx:Cx)(okT:Nat):Bool:=(List.range cx.P.funcs.size).all fun k=>!okT.testBit k||match cx.P.funcs[k]? with
 | some fn=>okFunc (cx.at k) fn
 | none=>true
theorem okAll_at {cx:Cx}{okT:Nat}(h:okAll cx okT=true){k:FuncId}{fn:Func}(hf:cx.P.funcs[k]?=some fn)(hk:okT.testBit k=true):okFunc (cx.at k) fn=true:=by
 have hlt:k<cx.P.funcs.size:=(Array.getElem?_eq_some_iff.1 hf).1;have h1:=(List.all_eq_true.1 h) k (List.mem_range.2 hlt);rw [hf] at h1;simpa [hk] using h1
theorem callQ_le {cx:Cx}{okT:Nat}{prim:FuncId→Option ACall}(hok:okAll cx okT=true):∀ n,CLe (callQ cx okT prim n) (callN cx prim n)
 | 0=>fun k args h r hh=>by cases hh
 | n+1=>fun k args h r hh=>by
  unfold callQ at hh;unfold callN
  cases hp:prim k with
  | some g=>rw [hp] at hh; exact hh
  | none =>
   rw [hp] at hh;simp only at hh;unfold funcQ at hh;rw [fnAt_eq] at hh;split at hh
   case h_2=>cases hh
   rename_i fn hf;split at hh
   case isFalse=>cases hh
   rename_i hcond;have:func cx (callQ cx okT prim n) (iter n) k args h=some r:=by
    unfold func;rw [hf];simp only;rw [if_pos ⟨okAll_at hok hf hcond.1,hcond.2⟩];exact hh
   exact func_mono (callQ_le hok n) (fun f g hfg st r h=>iter_le (Nat.le_refl n) f g hfg st r h) _ _ _ _ this
def snapEnd:Option (D × H)→Option D
 | some (d,h)=>snapOut h d
 | none=>none
theorem pureQ {cx:Cx}{okT:Nat}{prim:FuncId→Option ACall}(hok:okAll cx okT=true){c k:FuncId}{args:List D}{ts:List T}{d:D}{n:Nat}(hcb:callable cx.P k=true)(hm:cx.md c k = .pure)(hq:snapEnd (callQ cx okT prim n k args .empty)=some d)(h:H)(ha:allM D.toT args=some ts) :
   callD (cx.at c) (call cx prim) k args h=some (d,h):=by
 unfold snapEnd at hq;split at hq
 · rename_i d0 h0 hc
   exact pureT (cc:=cx.at c) hcb hm (callN_call _ _ _ _ (callQ_le hok n _ _ _ _ hc)) hq ha
 · cases hq
end Vai

namespace Vai
open Go
variable [Gl]
section
variable {P:Program}
theorem call_ok {cx:Cx}{prim:FuncId→Option ACall}(hP:cx.P=P)(hmix:P.follows .mixedOrders=true)(hprim:PrimOK P prim):CallOK P (call cx prim):=fun k args h d h' m w vs hr hv hc =>
 (call_some.1 hc).elim fun n hn=>callN_sound hP hmix hprim n k args h d h' m w vs hr hv hn
theorem loop_ok:ItOK P loopω:=fun dfs c f hf st x st' m w a hl hs =>
 (loop_some.1 hl).elim fun n hn=>iter_ok n dfs c f hf st x st' m w a hn hs
end
section
variable {cx:Cx}{c1 c2:ACall}{i1 i2:Iter}
theorem guardF_mono (hc:CLe c1 c2)(hi:ILe i1 i2){G:Grd}{pv:D}{st1:St}{v:T}{r:D × H}(h:guardF cx c1 i1 G pv st1 v=some r):guardF cx c2 i2 G pv st1 v=some r:=by
 unfold guardF at h ⊢;split at h
 · rename_i st2 hh
   rw [code_mono hc hi _ _ _ hh];exact h
 · cases h
theorem guardR_mono (hc:CLe c1 c2)(hi:ILe i1 i2){G:Grd}{pv:D}{q:CR}{r:D × H}(h:guardR cx c1 i1 G pv q=some r):guardR cx c2 i2 G pv q=some r:=by
 unfold guardR at h ⊢;split at h
 · exact guardF_mono hc hi h
 · exact guardF_mono hc hi h
 · exact guardF_mono hc hi h
 · cases h
theorem guardA_mono (hc:CLe c1 c2)(hi:ILe i1 i2){G:Grd}{k:FuncId}{args:List D}{h:H}{r:D × H}(hh:guardA cx c1 i1 G k args h=some r):guardA cx c2 i2 G k args h=some r:=by
 unfold guardA at hh ⊢;split at hh
 · rename_i hl
   rw [if_pos hl];split at hh
   · rename_i st0 h0
     rw [code_mono hc hi _ _ _ h0];simp only
     cases hq:code (cx.at G.k) c1 i1 G.rest { st0 with env:=upd st0.env G.f .undef } with
     | none=>rw [hq] at hh; cases hh
     | some q =>
      rw [hq] at hh;rw [code_mono hc hi _ _ _ hq];exact guardR_mono hc hi hh
   · cases hh
 · cases hh
theorem opSeq_mono (hc:CLe c1 c2){cc:Cc}{ops:Array Oper}:∀ {l:List Nat} {st r:St},opSeq cc c1 ops l st=some r→opSeq cc c2 ops l st=some r
 | [],st,r,h=>h
 | i::l,st,r,h=>by
  unfold opSeq at h ⊢;split at h
  · rename_i o ho
    split at h
    · rename_i st' hst
      rw [oper_mono hc hst];exact opSeq_mono hc h
    · cases h
  · cases h
theorem altOne_mono (hc:CLe c1 c2)(hi:ILe i1 i2){G:Alt}{st:St}{l:List Nat}{x:T}(h:altOne cx c1 i1 G st l=some x):altOne cx c2 i2 G st l=some x:=by
 unfold altOne at h ⊢;split at h
 · rename_i st3 h3
   rw [opSeq_mono hc h3];simp only
   cases hq:code (cx.at G.k) c1 i1 G.rest st3 with
   | none=>rw [hq] at h; cases h
   | some q=>rw [hq] at h; rw [code_mono hc hi _ _ _ hq]; exact h
 · cases h
theorem beq_refl_sameAll {x:T}:∀ {l:List (Option T)},(∀ y∈l,y=some x)→sameAll x l=true
 | [],_=>rfl
 | some y::l,h=>by
  have:=h _ List.mem_cons_self;cases this;simp only [sameAll,T.beq_self,Bool.true_and];exact beq_refl_sameAll fun y hy=>h y (List.mem_cons_of_mem _ hy)
 | none::l,h=>by cases h _ List.mem_cons_self
theorem altAll_of {x:T}{l:List (Option T)}(hne:l≠[])(h:∀ y∈l,y=some x):altAll l=some x:=by
 cases l with
 | nil=>exact absurd rfl hne
 | cons y l =>
  have:=h _ List.mem_cons_self;subst this;simp only [altAll];rw [if_pos (beq_refl_sameAll fun y hy=>h y (List.mem_cons_of_mem _ hy))]
theorem altRun_mono (hc:CLe c1 c2)(hi:ILe i1 i2){G:Alt}{ords:List (List Nat)}{q:CR}{x:T}(h:altRun cx c1 i1 G ords q=some x):altRun cx c2 i2 G ords q=some x:=by
 unfold altRun at h ⊢;split at h
 · rename_i _ st2
   have hne:ords.map (altOne cx c2 i2 G st2)≠[]:=fun e=>by
    rw [List.map_eq_nil_iff] at e;rw [e] at h; cases h
   refine altAll_of hne fun y hy=>?_
   obtain ⟨l,hl,rfl⟩:=List.mem_map.1 hy;exact altOne_mono hc hi (altAll_spec h _ (List.mem_map.2 ⟨l,hl,rfl⟩))
 · exact h
theorem altA_mono (hc:CLe c1 c2)(hi:ILe i1 i2){G:Alt}{ords:List (List Nat)}{k:FuncId}{args:List D}{h:H}{r:D × H}(hh:altA cx c1 i1 G ords k args h=some r):altA cx c2 i2 G ords k args h=some r:=by
 unfold altA at hh ⊢;split at hh
 · rename_i hl
   rw [if_pos hl];obtain ⟨x,hx,rfl⟩:=Option.map_eq_some_iff.1 hh
   cases hq:code (cx.at G.k) c1 i1 (.seq G.pre1 G.pre2) ⟨G.fn.ntmps,enterE args,h⟩ with
   | none=>rw [hq] at hx; cases hx
   | some q =>
    rw [hq] at hx;rw [code_mono hc hi _ _ _ hq,altRun_mono hc hi hx];rfl
 · cases hh
def PLe (p1 p2:FuncId→Option ACall)(cx:Cx):Prop:=∀ k,(∃ g1 g2,p1 k=some g1∧p2 k=some g2∧∀ args h r,g1 k args h=some r→g2 k args h=some r)∨(p1 k=none∧p2 k=none)∨(p1 k=none∧∀ fn,cx.P.funcs[k]?=some fn→okFunc (cx.at k) fn=false)
theorem callN_prim {p1 p2:FuncId→Option ACall}(hp:PLe p1 p2 cx):∀ n,CLe (callN cx p1 n) (callN cx p2 n)
 | 0=>fun k args h r hh=>by cases hh
 | n+1=>fun k args h r hh=>by
  unfold callN at hh ⊢;rcases hp k with ⟨g1,g2,h1,h2,hg⟩|⟨h1,h2⟩|⟨h1,h2⟩
  · rw [h1] at hh; rw [h2]; exact hg _ _ _ hh
  · rw [h1] at hh; rw [h2]; exact func_mono (callN_prim hp n) (fun f g hfg st r h=>iter_le (Nat.le_refl n) f g hfg st r h) _ _ _ _ hh
  · rw [h1] at hh
    simp only at hh;unfold func at hh
    cases hf:cx.P.funcs[k]? with
    | none=>rw [hf] at hh; cases hh
    | some fn =>
     rw [hf] at hh;simp only [h2 fn hf] at hh;simp at hh
theorem call_prims {p1 p2:FuncId→Option ACall}(hp:PLe p1 p2 cx):CLe (call cx p1) (call cx p2):=fun k args h r hh =>
 (call_some.1 hh).elim fun n hn=>call_some.2 ⟨n,callN_prim hp n _ _ _ _ hn⟩
end
theorem pureQ2 {cx:Cx}{okT:Nat}{p1 p2:FuncId→Option ACall}(hp:PLe p1 p2 cx)(hok:okAll cx okT=true){c k:FuncId}{args:List D}{ts:List T}{d:D}{n:Nat}(hcb:callable cx.P k=true)(hm:cx.md c k = .pure)(hq:snapEnd (callQ cx okT p1 n k args .empty)=some d)(h:H)(ha:allM D.toT args=some ts) :
  callD (cx.at c) (call cx p2) k args h=some (d,h) :=
 callD_mono (call_prims hp) (pureQ hok hcb hm hq h ha)
section
variable {cx:Cx}{prim:FuncId→Option ACall}{k:FuncId}{fn:Func}
theorem part_LB {c:Code}(hnd:(loopIds (bodyOf fn)).Nodup)(hcn:(loopIds c).Nodup)(hin:∀ id b,findLoop id c=some b→findLoop id (bodyOf fn)=some b)(st:St) :
  code (cx.at k) (call cx prim) loopω c st=codeB (cx.at k) (call cx prim) loopω (LB cx prim k fn) c st :=
 (codeB_eq (fun f g h st=>loopω_congr h st) c hcn (fun id b hb st=>LB_knows id b (hin id b hb) st) st).symm
end
end Vai

namespace Vai
open Go
theorem n1 (n:Nat):(n=n+1)=False:=by simp
theorem n2 (n:Nat):(n=n+1+1)=False:=by simp only [eq_iff_iff,iff_false]; omega
theorem n3 (n:Nat):(n=n+1+1+1)=False:=by simp only [eq_iff_iff,iff_false]; omega
theorem n4 (n:Nat):(n=n+1+1+1+1)=False:=by simp only [eq_iff_iff,iff_false]; omega
theorem n5 (n:Nat):(n=n+1+1+1+1+1)=False:=by simp only [eq_iff_iff,iff_false]; omega
theorem n6 (n:Nat):(n=n+1+1+1+1+1+1)=False:=by simp only [eq_iff_iff,iff_false]; omega
theorem r2 (n:Nat):(n+1+1=n)=False:=by simp only [eq_iff_iff,iff_false]; omega
theorem r3 (n:Nat):(n+1+1+1=n)=False:=by simp only [eq_iff_iff,iff_false]; omega
theorem r4 (n:Nat):(n+1+1+1+1=n)=False:=by simp only [eq_iff_iff,iff_false]; omega
theorem r5 (n:Nat):(n+1+1+1+1+1=n)=False:=by simp only [eq_iff_iff,iff_false]; omega
theorem r6 (n:Nat):(n+1+1+1+1+1+1=n)=False:=by simp only [eq_iff_iff,iff_false]; omega
attribute [simp] n1 n2 n3 n4 n5 n6 r2 r3 r4 r5 r6
theorem ne0 {i n:Nat}(h:i<n):(i=n)=False:=by simp only [eq_iff_iff,iff_false]; omega
theorem ne1 {i n:Nat}(h:i<n):(i=n+1)=False:=by simp only [eq_iff_iff,iff_false]; omega
theorem push_setA {h:H}{o p q:AObj}:((h.push o).push p).set (h.next+1) q=(h.push o).push q:=push_set (h:=h.push o)
theorem push_setB {h:H}{o p q r:AObj}:(((h.push o).push p).push q).set (h.next+1+1) r=((h.push o).push p).push r:=push_set (h:=(h.push o).push p)
theorem e_set1 {a o p:AObj}:((H.empty.push a).push o).set 1 p=(H.empty.push a).push p:=push_set (h:=(H.empty.push a))
theorem e_set2 {a b o p:AObj}:(((H.empty.push a).push b).push o).set 2 p=((H.empty.push a).push b).push p:=push_set (h:=((H.empty.push a).push b))
theorem e_set3 {a b c o p:AObj}:((((H.empty.push a).push b).push c).push o).set 3 p=(((H.empty.push a).push b).push c).push p:=push_set (h:=(((H.empty.push a).push b).push c))
attribute [simp] e_set1 e_set2 e_set3
def Keeps (h h':H):Prop:=h.next≤h'.next∧h'.marks=h.marks∧∀ id,id<h.next→h'.objs id=h.objs id
theorem Keeps.refl (h:H):Keeps h h:=⟨Nat.le_refl _,rfl,fun _ _=>rfl⟩
theorem Keeps.push (h:H)(o:AObj):Keeps h (h.push o):=⟨by simp [H.push],rfl,fun id hid=>by simp only [H.push,upd]; rw [if_neg (by omega)]⟩
theorem Keeps.trans {h1 h2 h3:H}(a:Keeps h1 h2)(b:Keeps h2 h3):Keeps h1 h3:=⟨Nat.le_trans a.1 b.1,b.2.1.trans a.2.1,fun id hid=>(b.2.2 id (Nat.lt_of_lt_of_le hid a.1)).trans (a.2.2 id hid)⟩
theorem Keeps.set {h:H}{id:Nat}{o:AObj}{h0:H}(a:Keeps h0 h)(hid:h0.next≤id):Keeps h0 (h.set id o):=⟨a.1,a.2.1,fun j hj=>by simp only [H.set,upd]; rw [if_neg (by omega)]; exact a.2.2 j hj⟩
theorem Keeps.obj {h h':H}{id:Nat}{o:AObj}(a:Keeps h h')(ho:h.objs id=some o)(hid:id<h.next):h'.objs id=some o:=(a.2.2 id hid).trans ho
end Vai
