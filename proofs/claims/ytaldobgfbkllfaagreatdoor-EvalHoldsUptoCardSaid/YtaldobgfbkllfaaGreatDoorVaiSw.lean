import Derived.Test.YtaldobgfbkllfaaGreatDoorVaiSv
import Derived.Test.YtaldobgfbkllfaaGreatDoorVaiSq
import Derived.Test.YtaldobgfbkllfaaGreatDoorVaiSb
import Derived.Test.YtaldobgfbkllfaaGreatDoorVaiSt
import Derived.Test.YtaldobgfbkllfaaGreatDoorVaiSu
set_option linter.unusedSimpArgs false
set_option linter.unusedVariables false
set_option linter.unusedSectionVars false
namespace Go.Proofs.YtaldobgfbkllfaaGreatDoor
open Vai
variable [Gl]
set_option maxHeartbeats 0
set_option maxRecDepth 100000
def evV (ps:List PT)(vl:List WV):V3 × Int:=if varsB vl=false then (z3,2) else if kindS ps (vl.map dcl)=0 then (z3,2) else evF ps vl ps.length ((ps.length:Int)-1)
theorem kindS_good {ps:List PT}{ds:List DV}(h:kindS ps ds≠0):0<ps.length∧ps.length≤256∧goodK ps ds ps.length=true∧kindS ps ds=getK (kindsL ps ds ps.length) ((ps.length:Int)-1):=by
 unfold kindS at h ⊢;split at h
 · exact absurd rfl h
 · rename_i h1
   rw [if_neg h1];split at h
   · exact absurd rfl h
   · rename_i h2
     rw [if_neg h2];split at h
     · exact absurd rfl h
     · rename_i h3
       rw [if_neg h3];refine ⟨by omega,by omega,?_,rfl⟩
       cases hg:goodK ps ds ps.length with
       | true=>rfl
       | false=>exact absurd hg h2
theorem good_sides {ps:List PT}{ds:List DV}(hg:goodK ps ds ps.length=true):Sides ps:=fun i x hx=>by
 obtain ⟨h1,h2,h3⟩:=kd_at hg hx;have hall:allIn (usesS x) i=true:=h3;obtain ⟨ua,ub,uc⟩:=uses_k (x:=x);have hk:1≤x.k∧x.k≤19:=by
  have:=kd_inv h1.symm h2;clear h1 h2 h3 ua ub uc hall;omega
 exact ⟨hk.1,hk.2,fun h=>allIn_mem hall (ua h hk.2),fun h=>allIn_mem hall (ub h hk.2),fun h=>allIn_mem hall (uc h)⟩
theorem dclT (vl:List WV):vl.map dcT=(vl.map dcl).map decT:=by rw [List.map_map]; rfl
section
variable {ps:List PT}{l vs:T}{vl:List WV}(hlp:Slice l (ps.map prP))(hv:Slice vs (vl.map varW))(hs:smallW vl)(hp:PartsOK ps vl)(hln:ps.length≤2000000)
include hlp hv hs hp hln
theorem v15:∃ h',call cx prim 15 [.t l,.t vs] .empty=some (.tup [.t (val3 (evV ps vl).1),.t (iv (evV ps vl).2)],h'):=by
 have hps:∀ x∈ps,x.s.size≤1000000000:=fun x hx=>(hp.1 x hx).2.2
 unfold evV
 cases hb:varsB vl with
 | false=>rw [if_pos rfl]; exact s15b hv hs hb
 | true =>
  rw [if_neg (by decide)]
  obtain ⟨y,hy,q17⟩:=c17 hv hs.1;rw [dclT] at hy;have qK:=fun h=>c26 hlp hy (by simpa using hs.1) hps hln (c:=15) rfl h
  by_cases h0:kindS ps (vl.map dcl)=0
  · rw [if_pos h0]; exact s15k hv hs hb q17 qK h0
  · rw [if_neg h0]
    obtain ⟨k1,k2,k3,k4⟩:=kindS_good h0;have:l = .slice (ps.map prP):=hlp.eq_of_ne (fun e=>by simp at e; rw [e] at k1; simp at k1)
    subst this;exact s15 hv hs hb q17 qK h0 hp (good_sides k3) k1 (by omega)
theorem v16:∃ h',call cx prim 16 [.t l,.t vs] .empty=some (.tup [.t (val3 (evV ps vl).1),.t (iv (evV ps vl).2)],h'):=by
 have hps:∀ x∈ps,x.s.size≤1000000000:=fun x hx=>(hp.1 x hx).2.2
 rw [call_run (cx:=cx) rfl Tryz.func16 ok16 nd16 rfl (lbe rfl) rfl rfl];have q36:=fun h=>c36 (c:=16) (d:=.t vs) (x:=vs) h rfl hv hs rfl
 unfold evV
 cases hb:varsB vl with
 | false =>
  rw [hb] at q36;rw [if_pos rfl];simp -implicitDefEqProofs (disch:=omega) [q36]
 | true =>
  rw [hb] at q36;rw [if_neg (by decide)]
  obtain ⟨y,hy,q18⟩:=c18 hv hs.1;rw [dclT] at hy;have q18:=fun h=>q18 16 h rfl
  have qK:=fun h=>c37 hlp hy (by simpa using hs.1) hps hln (c:=16) rfl h
  by_cases h0:kindS ps (vl.map dcl)=0
  · rw [if_pos h0]
    rw [h0] at qK;simp -implicitDefEqProofs (disch:=omega) [q36,q18,qK]
  · rw [if_neg h0]
    obtain ⟨k1,k2,k3,k4⟩:=kindS_good h0;have:l = .slice (ps.map prP):=hlp.eq_of_ne (fun e=>by simp at e; rw [e] at k1; simp at k1)
    subst this;have e1:(((ps.length-1:Nat):Nat):Int)=(ps.length:Int)-1:=by omega
    obtain ⟨hr,-,hz⟩:=of_ref hv hs.1 hb hp k3 ps.length (ps.length-1) (by omega) (by omega)
    rw [e1] at hr hz;have q38:=fun h=>c38 (c:=16) rfl hr h
    have ek:eqI (kindS ps (vl.map dcl)) 0=false:=eqI_false h0;generalize evF ps vl ps.length ((ps.length:Int)-1)=E at *;obtain ⟨V,e⟩:=E;simp only at hz q38 ⊢;by_cases he:e=0
    · subst he
      simp -implicitDefEqProofs (disch:=omega) [q36,q18,qK,ek,q38]
    · have ee:eqI e 0=false:=eqI_false he
      rw [hz he] at q38 ⊢;simp -implicitDefEqProofs (disch:=omega) [q36,q18,qK,ek,q38,ee]
end
end Go.Proofs.YtaldobgfbkllfaaGreatDoor

namespace Go.Proofs.YtaldobgfbkllfaaGreatDoor
open Vai P0
set_option maxHeartbeats 0
set_option maxRecDepth 100000
def AllR (Qt:Tk→Prop)(Q:PT→Prop)(ts:List Tk)(out:List PT):PR→Prop
 | .ok _ ts2 out2=>(∀ t∈ts,Qt t)→(∀ x∈out,Q x)→(∀ t∈ts2,Qt t)∧∀ x∈out2,Q x
 | .er _ _=>True
section
variable {Qt:Tk→Prop}{Q:PT→Prop}(hl:∀ t p,Qt t→leafA t=some p→Q p)(hn:∀ op a b c p,Q (nod op a b c p))
include hl hn
theorem rd_all {L:Int}{mo:Mo}{ts:List Tk}{d:Nat}{out:List PT}{r:PR}(h:Rd L mo ts d out r):AllR Qt Q ts out r:=by
 have sn:∀ {out:List PT} {op a b c p:Int},(∀ x∈out,Q x)→∀ x∈out ++ [nod op a b c p],Q x:=fun {out op a b c p} h x hx=>by
  rcases List.mem_append.1 hx with hx|hx
  · exact h x hx
  · simp at hx; subst hx; exact hn _ _ _ _ _
 induction h with
 | un_ok h1 h2 h3 ih=>exact fun a b=>have k:=ih (fun t ht=>a t (.tail _ ht)) b; ⟨k.1,sn k.2⟩
 | un_leaf h1 h2=>exact fun a b=>⟨fun t ht=>a t (.tail _ ht),fun x hx=>by
    rcases List.mem_append.1 hx with hx|hx
    · exact b x hx
    · simp at hx; subst hx; exact hl _ _ (a _ (.head _)) h2⟩
 | un_br h1 h2 h3 ih=>rename_i r; cases r<;>exact ih
 | len_ok h1 h2 h3 h4 h5 ih=>exact fun a b=>have k:=ih (fun t ht=>a t (.tail _ ht)) b; ⟨k.1,sn k.2⟩
 | br_ok h1 h2 h3 h4 ih=>exact fun a b=>have k:=ih (fun t ht=>a t (.tail _ ht)) b; ⟨fun t ht=>k.1 t (.tail _ ht),k.2⟩
 | lv_ok h1 h2 h3 ih1 ih2=>rename_i r; cases r<;>first|trivial|exact fun a b=>have k:=ih1 a b; ih2 k.1 k.2
 | ch_end h1=>exact fun a b=>⟨a,b⟩
 | ch_ok h1 h2 h3 h4 ih1 ih2=>rename_i r _ _ _; cases r<;>first|trivial|exact fun a b=>have k:=ih1 (fun t ht=>a t (.tail _ ht)) b; ih2 k.1 (sn k.2)
 | fo_no h1 h2 ih=>exact ih
 | fo_ok h1 h2 h3 h4 h5 h6 ih1 ih2 ih3=>exact fun a b =>
    have k:=ih1 a b;have k2:=ih2 (fun t ht=>k.1 t (.tail _ ht)) k.2
    have k3:=ih3 (fun t ht=>k2.1 t (.tail _ ht)) k2.2
    ⟨k3.1,sn k3.2⟩
 | _=>trivial
end
theorem leaf_okv {t:Tk}{p:PT}(ht:GoodT t)(h:leafA t=some p):OKV (partV p):=by
 have n0:noText.size≤1000000000:=by decide
 unfold leafA at h;split at h
 · rename_i h1
   cases h;rcases ht with ⟨_,_,n,h2,h3⟩|⟨h2,_⟩|⟨h2,_⟩|⟨h2,_⟩
   · exact ⟨by simp only; omega,by simp only; omega,n0⟩
   all_goals omega
 split at h
 · rename_i h1
   cases h;rcases ht with ⟨h2,_⟩|⟨_,_,_,h3⟩|⟨h2,_⟩|⟨h2,_⟩
   · omega
   · exact ⟨by simp [partV],by simp [partV],by simp only; omega⟩
   all_goals omega
 split at h
 · cases h
 split at h
 · cases h; exact ⟨by simp [partV],by simp [partV],n0⟩
 split at h
 · cases h; exact ⟨by simp [partV],by simp [partV],n0⟩
 split at h
 · cases h
 · cases h; exact ⟨by simp [partV],by simp [partV],n0⟩
theorem rd_okv {s:ByteArray}{L:Int}{v:Nat}{out:List PT}(hr:Rd L (.lv 6) (lexS s).1 0 [] (.ok v [] out)):∀ x∈out,OKV (partV x) :=
 (rd_all (Qt:=GoodT) (Q:=fun x=>OKV (partV x)) (fun t p=>leaf_okv) (fun _ _ _ _ _=>⟨by simp [partV,nod],by simp [partV,nod],by simp [partV,nod,noText,ByteArray.size]⟩) hr (lexS_good s) (fun x hx=>by cases hx)).2
def ParseBy (s:ByteArray)(ds:List DV)(r:PR)(ps:List PT)(p w:Int):Prop :=
 ((lexS s).2.2≠0∧ps=[]∧p=(lexS s).2.1∧w=(lexS s).2.2) ∨
 ((lexS s).2.2=0 ∧
  (((fauA r).2≠0∧ps=[]∧p=(fauA r).1∧w=(fauA r).2) ∨
   ∃ v out,r = .ok v [] out∧((goodK out ds out.length=true∧ps=out∧p=0∧w=0)∨(BadAt out ds p w∧ps=[]))))
theorem bad_fun {ps:List PT}{ds:List DV}{p w p' w':Int}(h:BadAt ps ds p w)(h':BadAt ps ds p' w'):p=p'∧w=w':=by
 obtain ⟨k,x,a1,a2,a3,rfl,rfl⟩:=h;obtain ⟨k',x',b1,b2,b3,rfl,rfl⟩:=h';rcases Nat.lt_trichotomy k k' with h|h|h
 · have:=goodK_mono (ps:=ps) (ds:=ds) (n:=k') (i:=k+1) h a3
   rw [b2] at this; cases this
 · subst h
   rw [a1] at b1; cases b1;exact ⟨rfl,rfl⟩
 · have:=goodK_mono (ps:=ps) (ds:=ds) (n:=k) (i:=k'+1) h b3
   rw [a2] at this; cases this
theorem bad_lt {ps:List PT}{ds:List DV}{p w:Int}(h:BadAt ps ds p w):goodK ps ds ps.length=false:=by
 obtain ⟨k,x,a1,a2,a3,_,_⟩:=h;have hk:k<ps.length:=by
  rcases Nat.lt_or_ge k ps.length with h1|h1
  · exact h1
  · rw [List.getElem?_eq_none h1] at a1; cases a1
 exact goodK_mono (by omega) a3
theorem parse_fun {s:ByteArray}{ds:List DV}{r:PR}{ps ps':List PT}{p p' w w':Int}(h:ParseBy s ds r ps p w)(h':ParseBy s ds r ps' p' w'):ps=ps'∧p=p'∧w=w':=by
 rcases h with ⟨a0,rfl,rfl,rfl⟩|⟨a0,h⟩
 · rcases h' with ⟨_,rfl,rfl,rfl⟩|⟨b0,_⟩
   · exact ⟨rfl,rfl,rfl⟩
   · exact absurd b0 a0
 rcases h' with ⟨b0,_⟩|⟨_,h'⟩
 · exact absurd a0 b0
 rcases h with ⟨a1,rfl,rfl,rfl⟩|⟨v,out,rfl,h⟩
 · rcases h' with ⟨_,rfl,rfl,rfl⟩|⟨v,out,rfl,_⟩
   · exact ⟨rfl,rfl,rfl⟩
   · exact absurd rfl a1
 rcases h' with ⟨b1,_⟩|⟨v',out',e,h'⟩
 · exact absurd rfl b1
 cases e;rcases h with ⟨g,rfl,rfl,rfl⟩|⟨g,rfl⟩
 · rcases h' with ⟨_,rfl,rfl,rfl⟩|⟨g',_⟩
   · exact ⟨rfl,rfl,rfl⟩
   · rw [bad_lt g'] at g; cases g
 · rcases h' with ⟨g',_⟩|⟨g',rfl⟩
   · rw [bad_lt g] at g'; cases g'
   · obtain ⟨rfl,rfl⟩:=bad_fun g g'
     exact ⟨rfl,rfl,rfl⟩
theorem rd_any (s:ByteArray):∃ r,Rd s.size (.lv 6) (lexS s).1 0 [] r:=rd_total s.size ((lexS s).1.length*10+8) (.lv 6) (lexS s).1 0 [] (by simp only [rank]; omega) (by simp [Good])
section
variable [Gl]
theorem c20r {c:FuncId}{s:ByteArray}{y:T}{ds:List DV}{r:PR}(hs:s.size≤1000000000)(hy:Slice y (ds.map decT))(hlD:ds.length≤2000000)(hr:Rd s.size (.lv 6) (lexS s).1 0 [] r)(hm:md c 20 = .pure) :
   ∃ ps p w x,ParseBy s ds r ps p w∧Slice x (ps.map prP)∧∀ h,callD (cx.at c) (call cx prim) 20 [.t (.str s),.t y] h=some (.tup [.t x,.t (iv p),.t (iv w)],h):=by
 by_cases hw:(lexS s).2.2=0
 · rcases fau_why (rd_why hr) with ⟨h0,v,out,rfl⟩|h0
   · obtain ⟨d,p,w,h',q,k⟩:=s20_all hs hy hlD hw hr (smallP s v out hr)
     rcases k with ⟨hg,rfl,rfl,id,k1,rfl,k3⟩|⟨hb,rfl⟩
     · refine ⟨out,0,0,.slice (out.map prP),.inr ⟨hw,.inr ⟨v,out,rfl,.inl ⟨hg,rfl,rfl,rfl⟩⟩⟩,.inr rfl,fun h=>pureT cb20 hm q ?_ rfl⟩
       have hsn:Vai.snap h' (.row id 0 out.length out.length)=some (.slice (out.map prP)):=row_snap k3 (by simp)
       simp only [snapOut,allM,hsn,snap_t]; rfl
     · exact ⟨[],p,w,.nilSlice,.inr ⟨hw,.inr ⟨v,out,rfl,.inr ⟨hb,rfl⟩⟩⟩,.inl ⟨rfl,rfl⟩,fun h=>pureT cb20 hm q rfl rfl⟩
   · obtain ⟨h',q⟩:=s20_par (y:=y) hs hw hr h0
     exact ⟨[],_,_,.nilSlice,.inr ⟨hw,.inl ⟨h0,rfl,rfl,rfl⟩⟩,.inl ⟨rfl,rfl⟩,fun h=>pureT cb20 hm q rfl rfl⟩
 · obtain ⟨h',q⟩:=s20_lex (y:=y) hs hw
   exact ⟨[],_,_,.nilSlice,.inl ⟨hw,rfl,rfl,rfl⟩,.inl ⟨rfl,rfl⟩,fun h=>pureT cb20 hm q rfl rfl⟩
theorem by_okv {s:ByteArray}{ds:List DV}{r:PR}{ps:List PT}{p w:Int}(hr:Rd s.size (.lv 6) (lexS s).1 0 [] r)(h:ParseBy s ds r ps p w):∀ x∈ps,OKV (partV x):=by
 rcases h with ⟨_,rfl,_⟩|⟨_,⟨_,rfl,_⟩|⟨v,out,rfl,⟨_,rfl,_⟩|⟨_,rfl⟩⟩⟩
 · intro x hx; cases hx
 · intro x hx; cases hx
 · exact rd_okv hr
 · intro x hx; cases hx
theorem by_len {s:ByteArray}{ds:List DV}{r:PR}{ps:List PT}{p w:Int}(hr:Rd s.size (.lv 6) (lexS s).1 0 [] r)(h:ParseBy s ds r ps p w):ps.length≤256:=by
 rcases h with ⟨_,rfl,_⟩|⟨_,⟨_,rfl,_⟩|⟨v,out,rfl,⟨_,rfl,_⟩|⟨_,rfl⟩⟩⟩
 · simp
 · simp
 · have:=rd_size hr
   have hl:=lexS_len s;simp only [Size,List.length_nil] at this;omega
 · simp
def fndV (ps:List PT)(w:Int)(vl:List WV)(kd:Int):V3 × Int:=if w≠0 then (z3,w) else if kindS ps (vl.map dcl)≠kd then (z3,132) else evV ps vl
end
end Go.Proofs.YtaldobgfbkllfaaGreatDoor

namespace Go.Proofs.YtaldobgfbkllfaaGreatDoor
open Vai P0
variable [GlP]
set_option maxHeartbeats 0
set_option maxRecDepth 100000
theorem sgn4 (s:ByteArray):Sgn4 (lexS s).1:=fun t ht hm=>by
 have hk:∀ y∈sgn,y≠noText:=by unfold sgn noText; simp
 have hx:sg [t]≠noText:=hk _ hm;rcases lexS_good s t ht with ⟨h,_⟩|⟨h,_⟩|⟨h,_,_,x,l,hl,hx,_⟩|⟨h,_⟩
 · simp only [sg,h] at hx; exact absurd rfl hx
 · simp only [sg,h] at hx; exact absurd rfl hx
 · exfalso
   simp only [sg,h] at hm;have e:t.text=⟨(x::l).toArray⟩:=by rw [←hl]
   rw [if_pos (by omega),e] at hm
   have key:∀ y∈sgn,y.data.toList.head?.all (fun b=>!letterB b.toNat)=true:=by unfold sgn; simp; decide
   have:=key _ hm;simp [hx] at this
 · exact h
theorem rs_new {L:Int}{x:T}{s:List Tk}(hx:Slice x (s.map Tk.t)):rsO L x 0 0 (.t .nilSlice) 0 0 = .row 101 7 [.t (.agg [.int .i64 L,x,.int .i64 0,.int .i64 0,.nilSlice,.int .i64 0,.int .i64 0])]:=by
 rcases hx with ⟨rfl,_⟩|rfl<;>rfl
def H29 (a w:Int):H:=(H.empty.push (.row 64 2 [.t (.agg [iv 0,iv 0])])).push (.row 64 2 [.t (.agg [iv a,iv w])])
section
variable (a w:Int)
theorem h29f:fieldAddrD Tryz.prog (H29 a w) 64 (.ptr 1 0 0 1) 1=some (.ptr 1 0 1 1):=by simp [H29]
theorem h29l:loadD Tryz.prog (H29 a w) 3 (.ptr 1 0 1 1)=some (.t (iv w)):=by simp [H29]
end
theorem ld64 {h:H}{a w:Int}:loadD Tryz.prog (h.set 0 (.row 64 2 [.t (.agg [iv a,iv w])])) 64 (.ptr 0 0 0 1)=some (.t (.agg [iv a,iv w])):=by simp
theorem s29_lex {s:ByteArray}{y:T}(hs:s.size≤1000000000)(hw:(lexS s).2.2≠0):∃ h',call cx prim 29 [.t (.str s),.t y] .empty=some (.tup [.t .nilSlice,.t (fltT (lexS s).2.1 (lexS s).2.2)],h'):=by
 obtain ⟨x,hx,q49⟩:=c49 (c:=29) s hs rfl;rw [call_run (cx:=cx) rfl Tryz.func29 ok29 nd29 rfl (lbe rfl) rfl rfl];have e0:=eqI_false hw;unfold fltT at *;generalize (lexS s).2.1=A at *;generalize (lexS s).2.2=W at *;simp -implicitDefEqProofs (disch:=omega) [q49,e0,hw,eqI,D.parts]
theorem s29_par {s:ByteArray}{y:T}{r:PR}(hs:s.size≤1000000000)(hw:(lexS s).2.2=0)(hr:Rd s.size (.lv 6) (lexS s).1 0 [] r)(hf:(fauA r).2≠0) :
  ∃ h',call cx prim 29 [.t (.str s),.t y] .empty=some (.tup [.t .nilSlice,.t (fltT (fauA r).1 (fauA r).2)],h'):=by
 obtain ⟨x,hx,q49⟩:=c49 (c:=29) s hs rfl;have hl:=lexS_len s;have hlen:=fun h=>hx.len (P:=Tryz.prog) (t:=80) tk80 h
 rw [List.length_map] at hlen;have hpush:=rs_new (L:=s.size) hx;have hxc:=P0.Slice.cells hx;rw [hw] at q49;have hg:=rd_ref hl (sgn4 s) hr 2 ((H29 (lexS s).2.1 0).push (rsO s.size x 0 0 (.t .nilSlice) 0 0)) 2 0 0 ⟨Nat.le_refl _,by simp [H29,H.empty],rfl,x,_,hx,by simp [H29,H.empty],.inl ⟨rfl,rfl⟩⟩ (by omega) rfl (by omega) (by simp; omega)
 rw [hpush] at hg;unfold fltT at *;generalize (lexS s).2.1=A at *;generalize (lexS s).1=all at *
 cases r with
 | er p' w' =>
  obtain ⟨h1,v,i2,out2,b1,q,g1,r1⟩:=hg;simp only [fauA] at hf ⊢;have q2:=keepT (cc:=cx.at 29) cb50 rfl q;obtain ⟨w1,w2,w3,w4⟩:=why_is g1;obtain ⟨x2,o2,hx2,hc2,ho2,_⟩:=g1.get;have l5:=rs_5 ho2 (P0.Slice.cells hx2) hc2;have z0:h1.objs 0=some (.row 64 2 [.t (.agg [iv 0,iv 0])]):=by rw [r1.2.2 0 (by omega)]; simp [H29,H.empty]
  clear q g1 hx2 hc2 ho2;rw [show ((6:Nat):Int)=6 from rfl] at q2
  have u1:=h29f A 0;have u2:=h29l A 0;simp only [H29] at q2 u1 u2;rw [call_run (cx:=cx) rfl Tryz.func29 ok29 nd29 rfl (lbe rfl) rfl rfl];simp -implicitDefEqProofs (disch:=omega) [-load_ptr,-nilCheckD,-fieldAddrD,q49,eqI,D.parts,hxc,u1,u2,q2,w1,w2,w3,w4,hf,l5,z0,ld64]
 | ok v ts2 out2 =>
  cases ts2 with
  | nil=>exact absurd rfl hf
  | cons t ts2 =>
   obtain ⟨h1,i2,p2,b1,b2,q,g1,r1⟩:=hg;have q2:=keepT (cc:=cx.at 29) cb50 rfl q;have hi2:=(drop_cons b2).2;obtain ⟨w1,w2,w3,w4⟩:=why_is g1;obtain ⟨x1,o1,hx1,hc1,ho1,_⟩:=g1.get;have i1:=rs_2 ho1 (P0.Slice.cells hx1);have i3:=rs_f2 ho1;have f0:=r52 (c:=29) g1 (by omega) hl rfl
   rw [b2] at f0;simp only [plc] at f0;obtain ⟨h3,f1,g3,r3⟩:=r51 (c:=29) g1 t.pos 131 rfl;obtain ⟨y1,y2,y3,y4⟩:=why_is g3;obtain ⟨x2,o2,hx2,hc2,ho2,_⟩:=g3.get;have l5:=rs_5 ho2 (P0.Slice.cells hx2) hc2;have z0:h3.objs 0=some (.row 64 2 [.t (.agg [iv 0,iv 0])]):=by rw [r3.2.2 0 (by omega),r1.2.2 0 (by omega)]; simp [H29,H.empty]
   have e1:(i2:Int)<all.length:=by omega
   simp only [fauA];clear q g1 hx2 hc2 ho2 hx1 hc1 ho1 g3;rw [show ((6:Nat):Int)=6 from rfl] at q2
   have u1:=h29f A 0;have u2:=h29l A 0;simp only [H29] at q2 u1 u2;rw [call_run (cx:=cx) rfl Tryz.func29 ok29 nd29 rfl (lbe rfl) rfl rfl];simp -implicitDefEqProofs (disch:=omega) [-load_ptr,-nilCheckD,-fieldAddrD,q49,eqI,D.parts,hxc,hlen,u1,u2,q2,w1,w2,w3,w4,i1,i3,e1,f0,f1,y1,y2,y3,y4,l5,z0,ld64]
theorem s29_all {s:ByteArray}{y:T}{ds:List DV}{v:Nat}{out:List PT}(hs:s.size≤1000000000)(hy:Slice y (ds.map decT))(hlD:ds.length≤2000000)(hw:(lexS s).2.2=0)(hr:Rd s.size (.lv 6) (lexS s).1 0 [] (.ok v [] out))
   (hps:∀ x∈out,x.s.size≤1000000000) :
   ∃ d p w h',call cx prim 29 [.t (.str s),.t y] .empty=some (.tup [d,.t (fltT p w)],h') ∧
     ((goodK out ds out.length=true∧p=0∧w=0∧∃ id,d = .row id 0 out.length out.length∧h'.objs id=some (.row 57 9 ((out.map prP).map .t)))∨(BadAt out ds p w∧d = .t .nilSlice)):=by
 obtain ⟨x,hx,q49⟩:=c49 (c:=29) s hs rfl;have hl:=lexS_len s;have hlen:=fun h=>hx.len (P:=Tryz.prog) (t:=80) tk80 h
 rw [List.length_map] at hlen;have hpush:=rs_new (L:=s.size) hx;have hxc:=P0.Slice.cells hx;have hsz:=rd_size hr;simp only [Size,List.length_nil] at hsz;obtain ⟨hwf,hv,_⟩:=rd_wf hr (fun i x hx=>by simp at hx)
 rw [hw] at q49;have hg:=rd_ref hl (sgn4 s) hr 2 ((H29 (lexS s).2.1 0).push (rsO s.size x 0 0 (.t .nilSlice) 0 0)) 2 0 0 ⟨Nat.le_refl _,by simp [H29,H.empty],rfl,x,_,hx,by simp [H29,H.empty],.inl ⟨rfl,rfl⟩⟩ (by omega) rfl (by omega) (by simp; omega)
 rw [hpush] at hg;unfold fltT at *;generalize (lexS s).2.1=A at *;generalize (lexS s).1=all at *;obtain ⟨h1,i2,p2,b1,b2,q,g1,r1⟩:=hg;have q2:=keepT (cc:=cx.at 29) cb50 rfl q;obtain ⟨w1,w2,w3,w4⟩:=why_is g1;have hall:sidesAll out:=fun k x hx=>by
   unfold sidesB;rw [List.all_eq_true];intro j hj;simpa using hwf k x hx j hj
 obtain ⟨_,g2,g3,x1,o1,hx1,ho1,h5⟩:=g1;rcases h5 with ⟨_,e⟩|⟨id,_,j2,rfl,j3⟩
 · rw [e] at hv; simp at hv
 have i1:=rs_2 ho1 (P0.Slice.cells hx1);have i3:=rs_f2 ho1;have z4:=rs_4 ho1 (P0.Slice.cells hx1);have z5:=rs_f4 ho1;have i2l:¬ ((i2:Int)<all.length):=by
   have:=congrArg List.length b2;simp at this; omega
 have q53:=c53t (c:=29) hy hlD (by omega) (by omega) hps hall rfl j3
 have z0:h1.objs 0=some (.row 64 2 [.t (.agg [iv 0,iv 0])]):=by rw [r1.2.2 0 (by omega)]; simp [H29,H.empty]
 clear q;rw [show ((6:Nat):Int)=6 from rfl] at q2
 have u1:=h29f A 0;have u2:=h29l A 0;simp only [H29] at q2 u1 u2;obtain ⟨G,hG⟩:∃ G:D→H→Prop,G=fun d h'=>∃ a b p w,d = .tup [a,b]∧b = .t (.agg [.int .i64 p,.int .i64 w])∧((goodK out ds out.length=true∧p=0∧w=0∧∃ id,a = .row id 0 out.length out.length∧h'.objs id=some (.row 57 9 ((out.map prP).map .t)))∨(BadAt out ds p w∧a = .t .nilSlice)):=⟨_,rfl⟩
 have key:∃ d h',call cx prim 29 [.t (.str s),.t y] .empty=some (d,h')∧G d h':=by
   rw [call_run (cx:=cx) rfl Tryz.func29 ok29 nd29 rfl (lbe rfl) rfl rfl];simp -implicitDefEqProofs (disch:=omega) [-load_ptr,-nilCheckD,-fieldAddrD,-List.map_map,q49,eqI,D.parts,hxc,hlen,u1,u2,q2,w1,w2,w3,w4,i1,i3,i2l,z4,z5,q53,z0];generalize hLp:loopω (LB cx prim 29 Tryz.f29 0) _=R;obtain ⟨x',⟨nn,env,h9⟩,rfl,rfl,e5,hq⟩:=l29 (o:=id) (P:=2) (h:=h1) (ps:=out) (ds:=ds) (z:=.nilSlice) j3 (by omega) hwf w1 z5 z4 z0 hLp rfl rfl (by simp) (by simp) (by simp) (by simp)
   simp only at e5 hq;rcases hq with ⟨rfl,hg,e8,rfl⟩|⟨rfl,p,w,hb,e4,rfl⟩
   · have z0':h9.objs 0=some (.row 64 2 [.t (.agg [.int .i64 0,.int .i64 0])]):=z0
     simp -implicitDefEqProofs (disch:=omega) [-load_ptr,-nilCheckD,-fieldAddrD,-List.map_map,e5,e8,w1,z5,z4,z0',D.parts,ld64];rw [hG];exact ⟨_,_,⟨rfl,rfl⟩,_,_,0,0,rfl,rfl,.inl ⟨hg,rfl,rfl,id,rfl,by
      rw [set_objs,upd_ne _ _ (fun e=>by subst e; rw [z0] at j3; simp at j3)]; exact j3⟩⟩
   · simp -implicitDefEqProofs (disch:=omega) [-load_ptr,-nilCheckD,-fieldAddrD,e5,e4,ld64]
     rw [hG];exact ⟨_,_,⟨rfl,rfl⟩,_,_,p,w,rfl,rfl,.inr ⟨hb,rfl⟩⟩
 obtain ⟨d,h',q,g⟩:=key;rw [hG] at g;obtain ⟨a,b,p,w,rfl,rfl,g⟩:=g;exact ⟨a,p,w,h',q,g⟩
theorem c29 {c:FuncId}{s:ByteArray}{y:T}{ds:List DV}{r:PR}(hs:s.size≤1000000000)(hy:Slice y (ds.map decT))(hlD:ds.length≤2000000)(hr:Rd s.size (.lv 6) (lexS s).1 0 [] r)(hm:md c 29 = .pure) :
   ∃ ps p w x,ParseBy s ds r ps p w∧Slice x (ps.map prP)∧∀ h,callD (cx.at c) (call cx prim) 29 [.t (.str s),.t y] h=some (.tup [.t x,.t (fltT p w)],h):=by
 by_cases hw:(lexS s).2.2=0
 · rcases fau_why (rd_why hr) with ⟨h0,v,out,rfl⟩|h0
   · obtain ⟨d,p,w,h',q,k⟩:=s29_all hs hy hlD hw hr (smallP s v out hr)
     rcases k with ⟨hg,rfl,rfl,id,rfl,k3⟩|⟨hb,rfl⟩
     · refine ⟨out,0,0,.slice (out.map prP),.inr ⟨hw,.inr ⟨v,out,rfl,.inl ⟨hg,rfl,rfl,rfl⟩⟩⟩,.inr rfl,fun h=>pureT cb29 hm q ?_ rfl⟩
       have hsn:Vai.snap h' (.row id 0 out.length out.length)=some (.slice (out.map prP)):=row_snap k3 (by simp)
       simp only [snapOut,allM,hsn,snap_t]; rfl
     · exact ⟨[],p,w,.nilSlice,.inr ⟨hw,.inr ⟨v,out,rfl,.inr ⟨hb,rfl⟩⟩⟩,.inl ⟨rfl,rfl⟩,fun h=>pureT cb29 hm q rfl rfl⟩
   · obtain ⟨h',q⟩:=s29_par (y:=y) hs hw hr h0
     exact ⟨[],_,_,.nilSlice,.inr ⟨hw,.inl ⟨h0,rfl,rfl,rfl⟩⟩,.inl ⟨rfl,rfl⟩,fun h=>pureT cb29 hm q rfl rfl⟩
 · obtain ⟨h',q⟩:=s29_lex (y:=y) hs hw
   exact ⟨[],_,_,.nilSlice,.inl ⟨hw,rfl,rfl,rfl⟩,.inl ⟨rfl,rfl⟩,fun h=>pureT cb29 hm q rfl rfl⟩
end Go.Proofs.YtaldobgfbkllfaaGreatDoor

namespace Go.Proofs.YtaldobgfbkllfaaGreatDoor
open Vai
variable [Gl]
set_option maxHeartbeats 0
set_option maxRecDepth 100000
section
variable {vs y l:T}{s:ByteArray}{at_ e K kd:Int}(hy:∀ (c:FuncId)(h:H),md c 17 = .pure→callD (cx.at c) (call cx prim) 17 [.t vs] h=some (.t y,h))
 (hP:∀ h,callD (cx.at 43) (call cx prim) 20 [.t (.str s),.t y] h=some (.tup [.t l,.t (iv at_),.t (iv e)],h))
include hy hP
theorem s43e (he:e≠0):∃ h',call cx prim 43 [.t (.str s),.t vs,.t (iv kd)] .empty=some (.tup [.t (val3 z3),.t (iv e)],h'):=by
 rw [call_run (cx:=cx) rfl Tryz.func43 ok43 nd43 rfl (lbe rfl) rfl rfl];have q1:=fun h=>hy 43 h rfl
 have e1:eqI e 0=false:=eqI_false he;simp -implicitDefEqProofs (disch:=omega) [q1,hP,e1]
theorem s43k (he:e=0)(hK:∀ h,callD (cx.at 43) (call cx prim) 26 [.t l,.t y] h=some (.t (iv K),h))(hk:K≠kd):∃ h',call cx prim 43 [.t (.str s),.t vs,.t (iv kd)] .empty=some (.tup [.t (val3 z3),.t (iv 132)],h'):=by
 rw [call_run (cx:=cx) rfl Tryz.func43 ok43 nd43 rfl (lbe rfl) rfl rfl];have q1:=fun h=>hy 43 h rfl
 subst he;have e1:eqI K kd=false:=eqI_false hk;simp -implicitDefEqProofs (disch:=omega) [q1,hP,hK,e1]
theorem s43 (he:e=0)(hK:∀ h,callD (cx.at 43) (call cx prim) 26 [.t l,.t y] h=some (.t (iv K),h))(hk:K=kd){v:V3}{er:Int}(hV:∀ h,callD (cx.at 43) (call cx prim) 15 [.t l,.t vs] h=some (.tup [.t (val3 v),.t (iv er)],h)) :
  ∃ h',call cx prim 43 [.t (.str s),.t vs,.t (iv kd)] .empty=some (.tup [.t (val3 v),.t (iv er)],h'):=by
 rw [call_run (cx:=cx) rfl Tryz.func43 ok43 nd43 rfl (lbe rfl) rfl rfl];have q1:=fun h=>hy 43 h rfl
 subst he hk;simp -implicitDefEqProofs (disch:=omega) [q1,hP,hK,hV]
end
theorem c43 {c:FuncId}{s:ByteArray}{vs:T}{kd er:Int}{v:V3}(hm:md c 43 = .pure)(hq:∃ h',call cx prim 43 [.t (.str s),.t vs,.t (iv kd)] .empty=some (.tup [.t (val3 v),.t (iv er)],h'))(h:H) :
  callD (cx.at c) (call cx prim) 43 [.t (.str s),.t vs,.t (iv kd)] h=some (.tup [.t (val3 v),.t (iv er)],h):=by
 obtain ⟨h',q⟩:=hq;exact pureT cb43 hm q rfl rfl
theorem s21b {s:ByteArray}{vs:T}{vl:List WV}(hv:Slice vs (vl.map varW))(hs:smallW vl)(hb:varsB vl=false):∃ h',call cx prim 21 [.t (.str s),.t vs] .empty=some (.tup [.t (.bool false),.t (iv 2)],h'):=by
 rw [call_run (cx:=cx) rfl Tryz.func21 ok21 nd21 rfl (lbe rfl) rfl rfl];have q1:=fun h=>c34 (c:=21) (d:=.t vs) (x:=vs) h rfl hv hs rfl
 rw [hb] at q1;simp -implicitDefEqProofs (disch:=omega) [q1]
theorem s21 {s:ByteArray}{vs:T}{vl:List WV}(hv:Slice vs (vl.map varW))(hs:smallW vl)(hb:varsB vl=true){v:V3}{er:Int}(hF:∀ h,callD (cx.at 21) (call cx prim) 43 [.t (.str s),.t vs,.t (iv 2)] h=some (.tup [.t (val3 v),.t (iv er)],h)) :
  ∃ h',call cx prim 21 [.t (.str s),.t vs] .empty=some (.tup [.t (.bool (eqI v.2.1 1)),.t (iv er)],h'):=by
 rw [call_run (cx:=cx) rfl Tryz.func21 ok21 nd21 rfl (lbe rfl) rfl rfl];have q1:=fun h=>c34 (c:=21) (d:=.t vs) (x:=vs) h rfl hv hs rfl
 rw [hb] at q1;simp -implicitDefEqProofs (disch:=omega) [q1,hF]
theorem c21 {c:FuncId}{s:ByteArray}{vs:T}{er:Int}{b:Bool}(hm:md c 21 = .pure)(hq:∃ h',call cx prim 21 [.t (.str s),.t vs] .empty=some (.tup [.t (.bool b),.t (iv er)],h'))(h:H) :
  callD (cx.at c) (call cx prim) 21 [.t (.str s),.t vs] h=some (.tup [.t (.bool b),.t (iv er)],h):=by
 obtain ⟨h',q⟩:=hq;exact pureT cb21 hm q rfl rfl
theorem c15v {ps:List PT}{l vs:T}{vl:List WV}(hlp:Slice l (ps.map prP))(hv:Slice vs (vl.map varW))(hs:smallW vl)(hp:PartsOK ps vl)(hln:ps.length≤2000000){c:FuncId}(hm:md c 15 = .pure)(h:H):callD (cx.at c) (call cx prim) 15 [.t l,.t vs] h=some (.tup [.t (val3 (evV ps vl).1),.t (iv (evV ps vl).2)],h):=by
 obtain ⟨h',q⟩:=v15 hlp hv hs hp hln;exact pureT cb15 hm q rfl rfl
theorem c16v {ps:List PT}{l vs:T}{vl:List WV}(hlp:Slice l (ps.map prP))(hv:Slice vs (vl.map varW))(hs:smallW vl)(hp:PartsOK ps vl)(hln:ps.length≤2000000){c:FuncId}(hm:md c 16 = .pure)(h:H):callD (cx.at c) (call cx prim) 16 [.t l,.t vs] h=some (.tup [.t (val3 (evV ps vl).1),.t (iv (evV ps vl).2)],h):=by
 obtain ⟨h',q⟩:=v16 hlp hv hs hp hln;exact pureT cb16 hm q rfl rfl
end Go.Proofs.YtaldobgfbkllfaaGreatDoor
