import Derived.Test.YtaldobgfbkllfaaGreatDoorVaiB
import Derived.LoopN
import Derived.ChangeArms
import Derived.OpenShut
import Derived.DataElems
import Derived.WideKeyArgs
import Derived.ChangeSame
import Derived.Carry
import Derived.JoinedCond
set_option linter.unusedSimpArgs false
set_option linter.unusedVariables false
set_option linter.unusedSectionVars false
namespace Vai
open Go
open Go.RowKit (Below)
variable [Gl]
def AV (m:M)(w:World)(n:Nat)(args:List D)(vs:Array Value):Prop:=args.length=vs.size∧∀ (i:Nat) (d:D) (v:Value),args[i]?=some d→vs[i]?=some v→VR m w d v∧d.refsB n=true
structure PEff (m:M) (w:World) (h:H) (x:T) (v:Value) (w':World) (h':H) (m':M):Prop where
 hr:HR m' w' h'
 tr:TR w' m'.blocks x v
 ext:Ext h.next m w m' w'
 next:h.next≤h'.next
 marks:h'.marks=h.marks
def Ends (m:M)(w:World)(h:H)(d:D)(h':H)(e:Ending)(w':World):Prop:=match d with
 | .pan x=>∃ v m',e = .panicked [{ v:=v,recovered:=false }]∧PEff m w h x v w' h' m'
 | d=>∃ v m',e = .returned v∧Eff m w h d v w' h' m'
theorem Ends.ret {m:M}{w:World}{h:H}{d:D}{h':H}{e:Ending}{w':World}(hd:d.isPan=false):Ends m w h d h' e w'↔∃ v m',e = .returned v∧Eff m w h d v w' h' m':=by
 cases d<;>first|exact Iff.rfl|cases hd
def CallOK (P:Program)(call:ACall):Prop:=∀ (k:FuncId) (args:List D) (h:H) (d:D) (h':H) (m:M) (w:World) (vs:Array Value),HR m w h→AV m w h.next args vs→call k args h=some (d,h') →
 Calls P k vs w fun e w'=>Ends m w h d h' e w'
def RetOK (P:Program)(call:ACall):Prop:=∀ (k:FuncId) (args:List D) (h:H) (d:D) (h':H) (m:M) (w:World) (vs:Array Value),HR m w h→AV m w h.next args vs→call k args h=some (d,h') →
 Calls P k vs w fun e w'=>∃ v m',e = .returned v∧Eff m w h d v w' h' m'
theorem snapOut_noPan {h:H}{d d':D}(hs:snapOut h d=some d'):d.isPan=false:=by
 cases d<;>first|rfl|(simp [snapOut,snap,snapF] at hs)
theorem noPan_some {r:Option (D × H)}{d:D}{h:H}(hs:noPan r=some (d,h)):r=some (d,h)∧d.isPan=false:=by
 unfold noPan at hs;split at hs
 · split at hs
   · cases hs
   · rename_i hp; cases hs; exact ⟨rfl,by simpa using hp⟩
 · cases hs
theorem RetOK.noPan {P:Program}{call:ACall}(hc:CallOK P call):RetOK P fun k args h=>noPan (call k args h):=by
 intro k args h d h' m w vs hr hv hcall;obtain ⟨h1,h2⟩:=noPan_some hcall;exact (hc k args h d h' m w vs hr hv h1).mono fun e w' hE=>(Ends.ret h2).1 hE
theorem ownOut_noPan {all:Bool}{h' h:H}{d:D}{r:D × H}(hs:ownOut all h' h d=some r):d.isPan=false:=by
 cases d<;>first|rfl|(simp [ownOut,snapOut,snap,snapF] at hs)
theorem treeOut_noPan {all:Bool}{h' h:H}{d:D}{r:D × H}(hs:treeOut all h' h d=some r):d.isPan=false:=by
 cases d<;>first|rfl|(simp [treeOut,snapOut,snap,snapF] at hs)
section
variable {P:Program}
mutual
theorem flat_tr {w:World}{S S':Nat→Prop}:∀ (x:T) (v:Value),TR w S x v→x.flat=true→TR w S' x v
 | .int _ _,_,h,_=>by cases h; constructor
 | .bool _,_,h,_=>by cases h; constructor
 | .str _,_,h,_=>by cases h; constructor
 | .nilSlice,_,h,_=>by cases h; constructor
 | .nilPtr,_,h,_=>by cases h; constructor
 | .nilMap,_,h,_=>by cases h; constructor
 | .nilFunc,_,h,_=>by cases h; constructor
 | .nilIface,_,h,_=>by cases h; constructor
 | .slice _,_,_,hf=>by simp [T.flat] at hf
 | .iface _ x,_,h,hf=>by
  cases h with
  | iface h=>exact .iface (flat_tr x _ h (by simpa [T.flat] using hf))
 | .agg cs,_,h,hf=>by
  cases h with
  | agg hl h1 h=>exact .agg hl h1 fun i c v hc hv=>flats_tr cs (by simpa [T.flat] using hf) i c v hc (h i c v hc hv)
theorem flats_tr {w:World}{S S':Nat→Prop}:∀ (cs:List T),T.flat.flats cs=true→∀ (i:Nat) (c:T) (v:Value),cs[i]?=some c→TR w S c v→TR w S' c v
 | [],_,i,c,v,hc,_=>by simp at hc
 | x::xs,hf,0,c,v,hc,h=>by
  simp only [T.flat.flats,Bool.and_eq_true] at hf;simp only [List.getElem?_cons_zero,Option.some.injEq] at hc;subst hc;exact flat_tr x v h hf.1
 | x::xs,hf,i+1,c,v,hc,h=>by
  simp only [T.flat.flats,Bool.and_eq_true] at hf;exact flats_tr xs hf.2 i c v (by simpa using hc) h
end
theorem Ext.toBelow {n:Nat}{m m':M}{w w':World}(h:Ext n m w m' w')(hm:∀ k,¬ m.own k):Below w.heap.size w w':=⟨h.os,h.tape,h.output,h.size,fun k hk=>h.keep k hk (hm k)⟩
theorem fresh_call {call:ACall}(hc:CallOK P call){m:M}{w:World}{h h':H}{args:List D}{ts:List T}{vs:Array Value}{k:FuncId}{d:D}(hr:HR m w h)(hv:AV m w h.next args vs)(hs:allM (snap h) args=some ts)(hcall:call k (ts.map .t) .empty=some (d,h'))(hpan:d.isPan=false) :
  ∃ F:Nat→Prop,(args.all D.isT=true→F=m.blocks)∧Calls P k vs w fun e w'=>∃ v m',e = .returned v∧Below w.heap.size w w'∧HR m' w' h'∧VR m' w' d v∧m'.F=F∧(∀ id x,m' id=some x→w.heap.size≤x.blk):=by
 have key:∀ F:Nat→Prop,(∀ k,F k→m.blocks k)→(∀ k,F k→k<w.heap.size)→(∀ (i:Nat) (x:T) (v:Value),ts[i]?=some x→vs[i]?=some v→TR w F x v) →
    Calls P k vs w fun e w'=>∃ v m',e = .returned v∧Below w.heap.size w w'∧HR m' w' h'∧VR m' w' d v∧m'.F=F∧(∀ id x,m' id=some x→w.heap.size≤x.blk):=by
  intro F hFm hF hx;have hb:∀ k,(⟨fun _=>none,F⟩:M).blocks k→F k:=by
    rintro k (⟨id,x,hx,_⟩|hk)
    · cases hx
    · exact hk
  have hr0:HR ⟨fun _=>none,F⟩ w H.empty :=
    ⟨fun id o ho=>by simp [H.empty] at ho,fun id x hx=>by simp at hx,fun id id' x x' hx=>by simp at hx,fun id x hx=>by simp at hx,hF,fun id o ho=>by simp [H.empty] at ho,fun mk hmk=>by simp [H.empty] at hmk,hr.glob.sub fun k hk=>hFm k (hb k hk)⟩
  refine (hc k (ts.map .t) .empty d h' _ w vs hr0 ⟨by rw [List.length_map,← (allM_some hs).1]; exact hv.1,fun i d v hd hvv=>?_⟩ hcall).mono fun e w' hend=>?_
  · simp only [List.getElem?_map,Option.map_eq_some_iff] at hd
    obtain ⟨x,hxi,rfl⟩:=hd;exact ⟨.t ((hx i x v hxi hvv).mono (fun _ _ _=>rfl) fun k _=>hb k),rfl⟩
  · obtain ⟨v,m',he,hE⟩:=(Ends.ret hpan).1 hend
    refine ⟨v,m',he,hE.ext.toBelow (fun k ⟨id,x,hx,_⟩=>by simp at hx),hE.hr,hE.vr,hE.ext.away,fun id x hx=>?_⟩
    rcases hE.ext.newb id x hx with ⟨_,_,hn,_⟩|h1
    · simp at hn
    · exact h1
 cases hall:args.all D.isT with
 | false =>
  refine ⟨fun _=>False,(fun h=>by cases h),key _ (fun _ h=>h.elim) (fun _ h=>h.elim) fun i x v hx hvv=>?_⟩
  obtain ⟨a,ha,hax⟩:=allM_get hs hx;exact snap_tr hr (hv.2 i a v ha hvv).1 hax
 | true =>
  refine ⟨m.blocks,(fun _=>rfl),key _ (fun _ h=>h) (fun k hk=>?_) fun i x v hx hvv=>?_⟩
  · rcases hk with ⟨id,x,hx,rfl⟩|hk
    · exact hr.lt hx
    · exact hr.old k hk
  · obtain ⟨a,ha,hax⟩:=allM_get hs hx
    have hiT:=all_get hall ha
    cases a with
    | t y =>
      have:y=x:=by simpa [snap,snapF] using hax
      subst this;have:=(hv.2 i _ v ha hvv).1
      cases this with
      | t h=>exact h
    | _=>simp [D.isT] at hiT
theorem snapOut_sound {m m':M}{w':World}{h':H}{d d':D}{v:Value}{F:Nat→Prop}(hr:HR m' w' h')(hv:VR m' w' d v)(hF:m'.F=F)(hs:snapOut h' d=some d')(hok:F=m.blocks∨d'.flat=true):VR m w' d' v∧∀ n,d'.refsB n=true:=by
 have one:∀ (d:D) (x:T) (v:Value),VR m' w' d v→snap h' d=some x→(F=m.blocks∨x.flat=true)→VR m w' (.t x) v:=by
  intro d x v hv hx hok;have h1:TR w' F x v:=snapF_sound hr F (fun k hk=>.inr (hF ▸ hk)) (fun id x hx=>hF ▸ hr.far id x hx) 5 d v x hv hx
  rcases hok with rfl|h2
  · exact .t h1
  · exact .t (flat_tr x v h1 h2)
 have simple:(snap h' d).map D.t=some d'→VR m w' d' v∧∀ n,d'.refsB n=true:=by
  intro h;obtain ⟨x,hx,rfl⟩:=Option.map_eq_some_iff.1 h;exact ⟨one d x v hv hx hok,fun _=>rfl⟩
 cases d with
 | tup ds =>
  simp only [snapOut] at hs;obtain ⟨ts,hts,rfl⟩:=Option.map_eq_some_iff.1 hs
  cases hv with
  | tup hl h =>
  refine ⟨.tup (by rw [List.length_map,← (allM_some hts).1]; exact hl) fun i d v hd hvv=>?_,fun n=>?_⟩
  · simp only [List.getElem?_map,Option.map_eq_some_iff] at hd
    obtain ⟨x,hx,rfl⟩:=hd;obtain ⟨a,ha,hax⟩:=allM_get hts hx;refine one a x v (h i a v ha hvv) hax (hok.imp id fun hf=>?_)
    simp only [D.flat] at hf;have:=all_get hf (i:=i) (x:=.t x) (by simp [hx])
    simpa using this
  · simp only [D.refsB]
    exact allM_refs fun j c hj=>by
     simp only [List.getElem?_map,Option.map_eq_some_iff] at hj;obtain ⟨x,_,rfl⟩:=hj;rfl
 | _=>exact simple (by simpa [snapOut] using hs)
theorem Eff.of_below {m:M}{w w':World}{h:H}{d:D}{v:Value}(hr:HR m w h)(hb:Below w.heap.size w w')(hv:VR m w' d v)(hd:d.refsB h.next=true):Eff m w h d v w' h m :=
 ⟨hr.below_ hb,hv,Ext.of_below hb _,hd,Nat.le_refl _,rfl⟩
theorem callPure_sound {call:ACall}(hc:CallOK P call):RetOK P (callPure call):=by
 intro k args h d h' m w vs hr hv hcall;unfold callPure at hcall;split at hcall
 · cases hcall
 · rename_i ts hs
   split at hcall
   · rename_i d1 h1 hcl
     split at hcall
     · rename_i d2 hso
       split at hcall
       · rename_i hok
         simp only [Option.some.injEq,Prod.mk.injEq] at hcall;obtain ⟨rfl,rfl⟩:=hcall;obtain ⟨F,hF,hC⟩:=fresh_call hc hr hv hs hcl (snapOut_noPan hso);refine hC.mono fun e w' ⟨v,m',he,hb,hr',hv',hmF,_⟩=>?_
         obtain ⟨h3,h4⟩:=snapOut_sound (m:=m) hr' hv' hmF hso (by
          rcases Bool.or_eq_true _ _ ▸ hok with h|h
          · exact .inl (hF h)
          · exact .inr h)
         exact ⟨v,m,he,.of_below hr hb h3 (h4 _)⟩
       · cases hcall
     · cases hcall
   · cases hcall
theorem elem_val {m:M}{w:World}{d:D}{s:Nat}{f:Nat→Option Value}(hl:d.cells.length=s)(h0:0<s)(h:∀ (j:Nat)(c:D),d.cells[j]?=some c→∃ u,f j=some u∧VR m w c u∧u.oneCell'=true) :
  ∃ V,VR m w d V∧V.cells.size=s∧∀ j,j<s→V.cells[j]? = f j:=by
 have single:d.cells=[d]→∃ V,VR m w d V∧V.cells.size=s∧∀ j,j<s→V.cells[j]? = f j:=by
  intro hd;obtain ⟨u,hu,hv,ho⟩:=h 0 d (by rw [hd]; rfl)
  have hc:u.cells = #[u]:=by cases u<;>first|rfl|cases ho
  rw [hd] at hl;simp at hl;exact ⟨u,hv,by rw [hc]; simp; omega,fun j hj=>by
    obtain rfl:j=0:=by omega
    rw [hc,hu]; rfl⟩
 have many:∀ ds:List D,d.cells=ds→∃ vs:Array Value,vs.size=s∧ds.length=s∧(∀ j,j<s→vs[j]? = f j)∧(∀ (i:Nat) (v:Value),vs[i]?=some v→v.oneCell'=true)∧(∀ (i:Nat) (d:D) (v:Value),ds[i]?=some d→vs[i]?=some v→VR m w d v):=by
  intro ds hd;subst hd;have hf:∀ j,j<s→∃ u,f j=some u∧VR m w (d.cells.getD j .undef) u∧u.oneCell'=true:=fun j hj=>by
    have hj':j<d.cells.length:=by omega
    obtain ⟨u,h1,h2,h3⟩:=h j d.cells[j] (by simp [hj'])
    exact ⟨u,h1,by simpa [hj'] using h2,h3⟩
  have hget:∀ i v,(Array.ofFn (fun j:Fin s=>(f j).getD undef))[i]?=some v→i<s∧f i=some v:=by
    intro i v hv;rw [Array.getElem?_ofFn] at hv;split at hv
    · rename_i hi
      obtain ⟨u,h1,_⟩:=hf i hi;simp [h1] at hv;exact ⟨hi,by rw [h1,hv]⟩
    · cases hv
  refine ⟨Array.ofFn (fun j:Fin s=>(f j).getD undef),by simp,hl,fun j hj=>?_,fun i v hv=>?_,fun i c v hd hv=>?_⟩
  · obtain ⟨u,h1,_⟩:=hf j hj
    simp [hj,h1]
  · obtain ⟨hi,h1⟩:=hget i v hv
    obtain ⟨u,h2,_,h3⟩:=hf i hi;rw [h1] at h2;cases h2;exact h3
  · obtain ⟨hi,h1⟩:=hget i v hv
    obtain ⟨u,h2,h3,_⟩:=h i c hd;rw [h1] at h2;cases h2;exact h3
 cases d with
 | undef=>simp [D.cells] at hl; omega
 | tup=>simp [D.cells] at hl; omega
 | pan=>simp [D.cells] at hl; omega
 | agg ds =>
  obtain ⟨vs,h1,h2,h3,h4,h5⟩:=many ds rfl;exact ⟨.agg vs,.agg (by omega) h4 h5,h1,h3⟩
 | t x =>
  cases x with
  | agg cs =>
    obtain ⟨vs,h1,h2,h3,h4,h5⟩:=many (cs.map .t) rfl;refine ⟨.agg vs,.t (.agg (by simpa [h1] using h2) h4 fun i c v hc hv=>?_),h1,h3⟩
    have:=h5 i (.t c) v (by simp [hc]) hv
    cases this with
    | t hx=>exact hx
  | _=>exact single rfl
 | _=>exact single rfl
theorem callOwn_sound {call:ACall}(hc:CallOK P call):RetOK P (callOwn call):=by
 intro k args h d h' m w vs hr hv hcall;unfold callOwn at hcall;split at hcall
 · cases hcall
 · rename_i ts hs
   split at hcall
   · rename_i d1 h1 hcl
     obtain ⟨F,hF,hC⟩:=fresh_call hc hr hv hs hcl (ownOut_noPan hcall);refine hC.mono fun e w' ⟨v,m',he,hb,hr',hv',hmF,hnew⟩=>?_
     unfold ownOut at hcall;split at hcall
     · rename_i _ id len top _
       split at hcall
       · rename_i bt s es hob
         split at hcall
         · rename_i hlt
           split at hcall
           · rename_i xs hxs
             split at hcall
             · rename_i hok
               simp only [Option.some.injEq,Prod.mk.injEq] at hcall;obtain ⟨rfl,rfl⟩:=hcall;obtain ⟨x,hx,hor⟩:=hr'.obj id _ hob;obtain ⟨o1,o2,o3,o4,o5,cur,o6,o7,o8,o9⟩:=hor
               cases hv' with
               | row r1 r2 =>
               obtain ⟨q1,q2⟩:=r2 x hx;obtain ⟨q3,a,cap,rfl,q4,q5,q6⟩:=q2 (by omega)
               have hlen:xs.length=len:=by rw [← (allM_some hxs).1,List.length_take]; omega
               have hnb:w.heap.size≤x.blk:=hnew _ _ hx
               let mi:MI:=⟨x.blk,len,s,x.cap⟩
               have hS:∀ k,(m.upd h.next (some mi)).blocks k→m.blocks k∨k=x.blk:=by
                rintro k (⟨id2,y,hy,rfl⟩|hk)
                · by_cases e:id2=h.next
                  · subst e
                    rw [M.upd_same] at hy;cases hy;exact .inr rfl
                  · rw [M.upd_ne _ _ e] at hy
                    exact .inl (.inl ⟨id2,y,hy,rfl⟩)
                · exact .inl (.inr hk)
               have htree:∀ (i:Nat) (y:T),xs[i]?=some y→y.cells.length=s∧∀ (j:Nat) (c:T),y.cells[j]?=some c→∃ u,cur[i*s+j]?=some u∧TR w' (m.upd h.next (some mi)).blocks c u∧u.oneCell'=true:=by
                intro i y hy;obtain ⟨e,he1,hey⟩:=allM_get hxs hy;have hei:es[i]?=some e:=by
                  rw [List.getElem?_take] at he1;split at he1
                  · exact he1
                  · cases he1
                obtain ⟨V,hV1,hV2,hV3⟩:=elem_val (m:=m') (w:=w') (d:=e) (f:=fun j=>cur[i*s+j]?) (o8 i e hei) o2 (fun j c hc=>o9 i j e c hei hc)
                have hT:TR w' (m.upd h.next (some mi)).blocks y V:=by
                  rcases Bool.or_eq_true _ _ ▸ hok with hfl|hall
                  · have h1:TR w' F y V:=snapF_sound hr' F (fun k hk=>.inr (hmF ▸ hk)) (fun id x hx=>hmF ▸ hr'.far id x hx) 5 e V y hV1 hey
                    refine flat_tr y V h1 ?_;have:∀ (l:List T),T.flat.flats l=true→∀ (i:Nat) (y:T),l[i]?=some y→y.flat=true:=by
                     intro l
                     induction l with
                     | nil=>intro _ i y hy; simp at hy
                     | cons a l ih =>
                       intro hf i y hy;simp only [T.flat.flats,Bool.and_eq_true] at hf
                       cases i with
                       | zero=>simp at hy; subst hy; exact hf.1
                       | succ i=>exact ih hf.2 i y (by simpa using hy)
                    exact this xs hfl i y hy
                  · simp only [Bool.and_eq_true] at hall
                    have hiT:=all_get hall.2 he1
                    cases e with
                    | t z =>
                     have hzy:z=y:=by simpa [snap,snapF] using hey
                     subst hzy
                     cases hV1 with
                     | t hx1 =>
                     refine hx1.mono (fun _ _ _=>rfl) fun k _ hk=>?_
                     rcases hS k hk with h1|rfl
                     · exact .inr (by rw [hmF,hF hall.1]; exact h1)
                     · exact .inl ⟨_,x,hx,rfl⟩
                    | _=>simp [D.isT] at hiT
                have hne:y.cells≠[]:=by
                  rcases hT.one with ⟨cs,vs2,rfl,rfl⟩|⟨h1,_,_⟩
                  · cases hT with
                    | agg hl _ _ =>
                    intro h0;simp only [T.cells] at h0;rw [h0] at hl;simp only [Value.cells] at hV2;simp at hl;omega
                  · rw [h1]; simp
                have hVT:VR (m.upd h.next (some mi)) w' (.t y) V:=.t hT
                obtain ⟨q7,q8⟩:=hVT.cells (by simpa [D.cells] using hne)
                simp only [D.cells,List.length_map] at q7;refine ⟨by omega,fun j c hc=>?_⟩
                have hj:j<s:=by
                  have:=(List.getElem?_eq_some_iff.1 hc).1;omega
                have hjV:j<V.cells.size:=by omega
                have q9:=q8 j (.t c) V.cells[j] (by simp [D.cells,hc]) (by simp [hjV])
                refine ⟨V.cells[j],by rw [←hV3 j hj]; simp [hjV],?_,q9.2⟩
                cases q9.1 with
                | t hx1=>exact hx1
               have hpush:=hr.push (x':=mi) (o':=.row bt s (xs.map .t)) hb hnb (fun hext=>by
                refine ⟨rfl,o2,by simp [mi,hlen],by simp only [mi]; omega,o5,cur,o6,o7,fun i d hd=>?_,fun i j d c hd hc=>?_⟩
                · simp only [List.getElem?_map,Option.map_eq_some_iff] at hd
                  obtain ⟨y,hy,rfl⟩:=hd;simpa [D.cells] using (htree i y hy).1
                · simp only [List.getElem?_map,Option.map_eq_some_iff] at hd
                  obtain ⟨y,hy,rfl⟩:=hd;simp only [D.cells,List.getElem?_map,Option.map_eq_some_iff] at hc;obtain ⟨c0,hc0,rfl⟩:=hc;obtain ⟨u,hu,hut,huo⟩:=(htree i y hy).2 j c0 hc0;exact ⟨u,hu,.t hut,huo⟩) (by
                simp only [AObj.refsB,List.all_eq_true,List.mem_map];rintro _ ⟨y,_,rfl⟩;rfl)
               obtain ⟨t1,t2⟩:=hpush;refine ⟨_,_,he,t1,?_,t2,by simp [D.refsB,H.push],by simp [H.push],rfl⟩
               refine .row rfl fun y hy=>?_
               rw [M.upd_same] at hy;obtain rfl:=Option.some.inj hy;refine ⟨Nat.le_refl _,fun _=>⟨by omega,a,cap,rfl,q4,by simpa [mi] using q5,fun h0=>?_⟩⟩
               rw [q6 h0];simp [mi]
             · cases hcall
           · cases hcall
         · cases hcall
       · cases hcall
     · split at hcall
       · rename_i d2 hso
         split at hcall
         · rename_i hok
           simp only [Option.some.injEq,Prod.mk.injEq] at hcall;obtain ⟨rfl,rfl⟩:=hcall;obtain ⟨h3,h4⟩:=snapOut_sound (m:=m) hr' hv' hmF hso (by
             rcases Bool.or_eq_true _ _ ▸ hok with h|h
             · exact .inl (hF h)
             · exact .inr h)
           exact ⟨v,m,he,.of_below hr hb h3 (h4 _)⟩
         · cases hcall
       · cases hcall
   · cases hcall
theorem callTree_sound {call:ACall}(hc:CallOK P call):RetOK P (callTree call):=by
 intro k args h d h' m w vs hr hv hcall;unfold callTree at hcall;split at hcall
 · cases hcall
 · rename_i ts hs
   split at hcall
   · rename_i d1 h1 hcl
     obtain ⟨F,hF,hC⟩:=fresh_call hc hr hv hs hcl (treeOut_noPan hcall);refine hC.mono fun e w' ⟨v,m',he,hb,hr',hv',hmF,hnew⟩=>?_
     unfold treeOut at hcall;split at hcall
     · rename_i _ id len top _
       split at hcall
       · rename_i bt s es hob
         split at hcall
         · rename_i hlt
           split at hcall
           · rename_i xs hxs
             split at hcall
             · rename_i hok
               simp only [Option.some.injEq,Prod.mk.injEq] at hcall;obtain ⟨rfl,rfl⟩:=hcall;obtain ⟨x,hx,hor⟩:=hr'.obj id _ hob;obtain ⟨o1,o2,o3,o4,o5,cur,o6,o7,o8,o9⟩:=hor
               cases hv' with
               | row r1 r2 =>
               obtain ⟨q1,q2⟩:=r2 x hx;obtain ⟨q3,a,cap,rfl,q4,q5,q6⟩:=q2 (by omega)
               have hlen:xs.length=len:=by rw [← (allM_some hxs).1,List.length_take]; omega
               have hnb:w.heap.size≤x.blk:=hnew _ _ hx;have htree:∀ (i:Nat) (y:T),xs[i]?=some y→y.cells.length=s∧∀ (j:Nat) (c:T),y.cells[j]?=some c→∃ u,cur[i*s+j]?=some u∧TR w' m.blocks c u∧u.oneCell'=true:=by
                 intro i y hy;obtain ⟨e,he1,hey⟩:=allM_get hxs hy;have hei:es[i]?=some e:=by
                   rw [List.getElem?_take] at he1;split at he1
                   · exact he1
                   · cases he1
                 obtain ⟨V,hV1,hV2,hV3⟩:=elem_val (m:=m') (w:=w') (d:=e) (f:=fun j=>cur[i*s+j]?) (o8 i e hei) o2 (fun j c hc=>o9 i j e c hei hc)
                 have hT:TR w' m.blocks y V:=by
                   rcases Bool.or_eq_true _ _ ▸ hok with hfl|hall
                   · have h1:TR w' F y V:=snapF_sound hr' F (fun k hk=>.inr (hmF ▸ hk)) (fun id x hx=>hmF ▸ hr'.far id x hx) 5 e V y hV1 hey
                     refine flat_tr y V h1 ?_;have:∀ (l:List T),T.flat.flats l=true→∀ (i:Nat) (y:T),l[i]?=some y→y.flat=true:=by
                       intro l
                       induction l with
                       | nil=>intro _ i y hy; simp at hy
                       | cons a l ih =>
                        intro hf i y hy;simp only [T.flat.flats,Bool.and_eq_true] at hf
                        cases i with
                        | zero=>simp at hy; subst hy; exact hf.1
                        | succ i=>exact ih hf.2 i y (by simpa using hy)
                     exact this xs hfl i y hy
                   · simp only [Bool.and_eq_true] at hall
                     have hiT:=all_get hall.2 he1
                     cases e with
                     | t z =>
                       have hzy:z=y:=by simpa [snap,snapF] using hey
                       subst hzy
                       cases hV1 with
                       | t hx1 =>
                       refine hx1.mono (fun _ _ _=>rfl) fun k _ hk=>?_
                       exact .inr (by rw [hmF,hF hall.1]; exact hk)
                     | _=>simp [D.isT] at hiT
                 have hne:y.cells≠[]:=by
                   rcases hT.one with ⟨cs,vs2,rfl,rfl⟩|⟨h1,_,_⟩
                   · cases hT with
                     | agg hl _ _ =>
                     intro h0;simp only [T.cells] at h0;rw [h0] at hl;simp only [Value.cells] at hV2;simp at hl;omega
                   · rw [h1]; simp
                 have hVT:VR m w' (.t y) V:=.t hT;obtain ⟨q7,q8⟩:=hVT.cells (by simpa [D.cells] using hne)
                 simp only [D.cells,List.length_map] at q7;refine ⟨by omega,fun j c hc=>?_⟩
                 have hj:j<s:=by
                   have:=(List.getElem?_eq_some_iff.1 hc).1;omega
                 have hjV:j<V.cells.size:=by omega
                 have q9:=q8 j (.t c) V.cells[j] (by simp [D.cells,hc]) (by simp [hjV])
                 refine ⟨V.cells[j],by rw [←hV3 j hj]; simp [hjV],?_,q9.2⟩
                 cases q9.1 with
                 | t hx1=>exact hx1
               have hnx:¬ m.blocks x.blk:=hr.fresh hnb;refine ⟨_,_,he,.of_below hr hb (.t (.slice (s:=s) (us:=fun i j=>cur.getD (i*s+j) undef) hlen q4 (fun i y hy=>(htree i y hy).1) (fun i j y c hy hc=>?_) (fun i j y c hy hc=>?_))) rfl⟩
               · obtain ⟨u,hu,_,huo⟩:=(htree i y hy).2 j c hc
                 have hlt:i<len:=by have:=(List.getElem?_eq_some_iff.1 hy).1; omega
                 have ha:=q6 (by omega)
                 have e:cur.getD (i*s+j) undef=u:=by simp [Array.getD_eq_getD_getElem?,hu]
                 simp only [e];refine ⟨?_,?_,huo⟩
                 · rw [ha]; exact hnx
                 · rw [ha,show (⟨x.blk,0*x.s,none⟩:Addr).add (i*s+j)=⟨x.blk,0*x.s+(i*s+j),none⟩ from by
                     by_cases e0:i*s+j=0
                     · simp [Addr.add,e0]
                     · simp only [Addr.add,if_neg e0]]
                   simp [World.cell?,o6,hu]
               · obtain ⟨u,hu,hut,_⟩:=(htree i y hy).2 j c hc
                 have e:cur.getD (i*s+j) undef=u:=by simp [Array.getD_eq_getD_getElem?,hu]
                 simp only [e];exact hut
             · cases hcall
           · cases hcall
         · cases hcall
       · cases hcall
     · split at hcall
       · rename_i d2 hso
         split at hcall
         · rename_i hok
           simp only [Option.some.injEq,Prod.mk.injEq] at hcall;obtain ⟨rfl,rfl⟩:=hcall;obtain ⟨h3,h4⟩:=snapOut_sound (m:=m) hr' hv' hmF hso (by
             rcases Bool.or_eq_true _ _ ▸ hok with h|h
             · exact .inl (hF h)
             · exact .inr h)
           exact ⟨v,m,he,.of_below hr hb h3 (h4 _)⟩
         · cases hcall
       · cases hcall
   · cases hcall
theorem callDrop_sound {call:ACall}(hc:CallOK P call):RetOK P (callDrop call):=by
 intro k args h d h' m w vs hr hv hcall;unfold callDrop at hcall;split at hcall
 · rename_i d1 h1 hcl
   split at hcall
   · rename_i hd
     simp only [Option.some.injEq,Prod.mk.injEq] at hcall;obtain ⟨rfl,rfl⟩:=hcall;have hr0:HR m w { h with marks:=h.next::h.marks }:=⟨hr.obj,hr.dom,hr.inj,hr.far,hr.old,hr.below,fun mk hmk=>by
      rcases List.mem_cons.1 hmk with rfl|hmk
      · exact ⟨Nat.le_refl _,fun id o ho _=>hr.below id o ho⟩
      · exact hr.marks mk hmk,hr.glob⟩
     refine ((RetOK.noPan hc) k args _ d1 h1 m w vs hr0 hv hcl).mono fun e w' ⟨v,m',he,hE⟩=>?_
     obtain ⟨m'',h3,h4,h5⟩:=hr.dropTo hE.hr hE.next hE.marks hE.ext
     exact ⟨v,m'',he,h3,h5.vr hE.vr hd,h4,hd,Nat.le_refl _,rfl⟩
   · cases hcall
 · cases hcall
end
end Vai

namespace Vai
open Go
open Go.RowKit (Below)
variable [Gl]{dfs:List Deferred}
section
variable {P:Program}
theorem callable_run {k:FuncId}(h:callable P k=true)(args:Array Value)(w:World):(callFunc k args).run P w = .ok (.enter k args) w:=by
 rw [callable_eq] at h;unfold callable0 at h;split at h
 · rename_i fn hf
   simp only [Bool.and_eq_true,Bool.not_eq_true',beq_eq_false_iff_ne] at h;obtain ⟨h1,h2⟩:=h;obtain ⟨b,hb⟩:=Option.isSome_iff_exists.1 h2;simp [callFunc,hf,h1,hb]
 · cases h
theorem callD_sound {cx:Cc}{call:ACall}(hP:cx.P=P)(hc:CallOK P call):RetOK P (callD cx call):=by
 intro k args h d h' m w vs hr hv hcall;unfold callD at hcall;split at hcall
 · split at hcall
   · exact callPure_sound hc k args h d h' m w vs hr hv hcall
   · exact callOwn_sound hc k args h d h' m w vs hr hv hcall
   · exact RetOK.noPan hc k args h d h' m w vs hr hv hcall
   · exact callDrop_sound hc k args h d h' m w vs hr hv hcall
   · exact callTree_sound hc k args h d h' m w vs hr hv hcall
 · cases hcall
theorem enter_run {m:M}{w:World}{h:H}{o:Oper}{a:Act}{k:FuncId}{fs cs rest:List D}{c:Go.Call}{f:Operand}(hov:OV m w h.next a.eval o.op.operands.toList (.func (.func k) fs cs::rest))(hop:o.op = .call c)(hcal:c.callee = .value f)(hcd:callable P k=true) :
  ∃ vs:Array Value,(execOp a.eval o).run P w = .ok (.enter k vs) w∧AV m w h.next (fs++rest++cs) vs:=by
 have hops:o.op.operands.toList=f::c.args.toList:=by rw [hop]; simp [Op.operands,Go.Call.operands,hcal]
 rw [hops] at hov;obtain ⟨⟨h1,h1r⟩,h2⟩:=hov.tail;generalize hf:a.eval f=fv at h1
 cases h1 with
 | @func _ _ _ us vs hl hl' hh hh' =>
 simp only [D.refsB,Bool.and_eq_true] at h1r;have hrun:(execOp a.eval o).run P w = .ok (.enter k ((us++c.args.map a.eval)++vs)) w:=by
  obtain ⟨dst,op,type,pos,after,guard⟩:=o;simp only at hop;subst hop;have:=callable_run hcd ((us++c.args.map a.eval)++vs) w;simpa [execOp,resolve,hcal,Deferred.ofValue,hf,invoke] using this
 have hav:AV m w h.next (fs++rest++cs) ((us++c.args.map a.eval)++vs):=by
  have hlr:rest.length=c.args.size:=by simpa using h2.1.symm
  refine ⟨by simp; omega,fun i d v hd hv=>?_⟩
  rw [List.getElem?_append] at hd;rw [Array.getElem?_append] at hv;simp only [List.length_append,Array.size_append,Array.size_map] at hd hv;rw [hl,hlr] at hd;split at hd
  · rename_i hi
    rw [if_pos hi] at hv;rw [List.getElem?_append] at hd;rw [Array.getElem?_append] at hv;rw [hl] at hd;split at hd
    · rename_i hi2
      rw [if_pos hi2] at hv;exact ⟨hh i d v hd hv,refsL_get h1r.1 hd⟩
    · rename_i hi2
      rw [if_neg hi2] at hv;simp only [Array.getElem?_map,Option.map_eq_some_iff] at hv;obtain ⟨x,hx,rfl⟩:=hv;exact h2.get (by simpa using hx) hd
  · rename_i hi
    rw [if_neg hi] at hv;exact ⟨hh' _ d v hd hv,refsL_get h1r.2 hd⟩
 exact ⟨_,hrun,hav⟩
theorem step_wp {cx:Cc}{call:ACall}(hP:cx.P=P)(hc:CallOK P call){m:M}{w:World}{h h':H}{o:Oper}{ds:List D}{d:D}{a:Act}(hr:HR m w h)(hov:OV m w h.next a.eval o.op.operands.toList ds)
   (hs:stepD cx call o.op ds h=some (d,h')) {K:Act→World→Prop} {Q:Exit→Act→World→Prop} (hK:∀ v w' m',Eff m w h d v w' h' m'→K (a.put o.dst v) w'):o.wp P a w K Q:=by
 have val:∀ v w' m',(execOp a.eval o).run P w = .ok (.value v) w'→Eff m w h d v w' h' m'→o.wp P a w K Q:=by
   intro v w' m' h1 h2;unfold Oper.wp;rw [h1];exact hK v w' m' h2
 unfold stepD at hs;split at hs
 · obtain ⟨d0,hp,he⟩:=Option.map_eq_some_iff.1 hs
   cases he;rw [hP] at hp;obtain ⟨v,w',h1,h2,h3,h4⟩:=pureD_sound hr hov hp;exact val v w' m h1 (.of_below hr h2 h3 h4)
 · obtain ⟨d0,hp,he⟩:=Option.map_eq_some_iff.1 hs
   cases he;rw [hP] at hp;obtain ⟨v,w',h1,h2,h3,h4⟩:=readD_sound hr hov hp;exact val v w' m h1 (.of_below hr h2 h3 h4)
 · rw [hP] at hs
   obtain ⟨w',m',v,h1,h2⟩:=effD_sound hr hov hs;rcases h1 with h1|⟨h1,rfl⟩
   · exact val v w' m' h1 h2
   · unfold Oper.wp
     rw [h1];exact hK undef w' m' h2
 · split at hs
   · rename_i k fs cs rest
     split at hs
     · rename_i c hop
       split at hs
       · rename_i f hcal
         have hops:o.op.operands.toList=f::c.args.toList:=by rw [hop]; simp [Op.operands,Go.Call.operands,hcal]
         rw [hops] at hov;obtain ⟨⟨h1,h1r⟩,h2⟩:=hov.tail;generalize hf:a.eval f=fv at h1
         cases h1 with
         | @func _ _ _ us vs hl hl' hh hh' =>
         simp only [D.refsB,Bool.and_eq_true] at h1r;have hcd:callable P k=true:=by
          unfold callD at hs;split at hs
          · rename_i hcb; rw [←hP]; exact hcb
          · cases hs
         have hrun:(execOp a.eval o).run P w = .ok (.enter k ((us++c.args.map a.eval)++vs)) w:=by
          obtain ⟨dst,op,type,pos,after,guard⟩:=o;simp only at hop;subst hop;have:=callable_run hcd ((us++c.args.map a.eval)++vs) w;simpa [execOp,resolve,hcal,Deferred.ofValue,hf,invoke] using this
         have hav:AV m w h.next (fs++rest++cs) ((us++c.args.map a.eval)++vs):=by
          have hlr:rest.length=c.args.size:=by simpa using h2.1.symm
          refine ⟨by simp; omega,fun i d v hd hv=>?_⟩
          rw [List.getElem?_append] at hd;rw [Array.getElem?_append] at hv;simp only [List.length_append,Array.size_append,Array.size_map] at hd hv;rw [hl,hlr] at hd;split at hd
          · rename_i hi
            rw [if_pos hi] at hv;rw [List.getElem?_append] at hd;rw [Array.getElem?_append] at hv;rw [hl] at hd;split at hd
            · rename_i hi2
              rw [if_pos hi2] at hv;exact ⟨hh i d v hd hv,refsL_get h1r.1 hd⟩
            · rename_i hi2
              rw [if_neg hi2] at hv;simp only [Array.getElem?_map,Option.map_eq_some_iff] at hv;obtain ⟨x,hx,rfl⟩:=hv;exact h2.get (by simpa using hx) hd
          · rename_i hi
            rw [if_neg hi] at hv;exact ⟨hh' _ d v hd hv,refsL_get h1r.2 hd⟩
         unfold Oper.wp;rw [hrun,Oper.upon_enter];refine (callD_sound hP hc k _ h d h' m w _ hr hav hs).mono fun e w' ⟨v,m',he,hE⟩=>?_
         subst he;exact hK v w' m' hE
       · cases hs
     · cases hs
   · cases hs
theorem panOf_some {r:Option (D × H)}{x:T}{h:H}(hs:panOf r=some (x,h)):r=some (.pan x,h):=by
 unfold panOf at hs;split at hs
 · cases hs; rfl
 · cases hs
theorem stepX_wp {cx:Cc}{call:ACall}(hP:cx.P=P)(hc:CallOK P call){m:M}{w:World}{h h':H}{o:Oper}{ds:List D}{x:T}{a:Act}(hr:HR m w h)(hov:OV m w h.next a.eval o.op.operands.toList ds)
   (hs:stepX cx call o.op ds h=some (x,h')) {K:Act→World→Prop} {Q:Exit→Act→World→Prop} (hQ:∀ v w' m',PEff m w h x v w' h' m'→Q (.panic [{ v:=v,recovered:=false }]) a w'):o.wp P a w K Q:=by
 unfold stepX at hs;split at hs
 · rename_i y hop
   split at hs
   · rename_i t z
     cases hs;have hops:o.op.operands.toList=[y]:=by rw [hop]; rfl
     rw [hops] at hov;obtain ⟨⟨h1,h1r⟩,_⟩:=hov.tail;generalize hf:a.eval y=fv at h1
     cases h1 with
     | t h1 =>
     have h1':=h1
     cases h1 with
     | @iface _ _ vv h1 =>
     unfold Oper.wp;have hrun:(execOp a.eval o).run P w =   .halt (.panic (.iface t vv)) w:=by
       obtain ⟨dst,op,type,pos,after,guard⟩:=o;simp only at hop;subst hop;simp only [execOp,Sem.run_bind,hf];rfl
     rw [hrun,Oper.upon_panic];exact hQ _ w m ⟨hr,h1',Ext.refl _ _ _,Nat.le_refl _,rfl⟩
   · cases hs
 · rename_i c hop
   split at hs
   · rename_i f hcal
     split at hs
     · rename_i k fs cs rest
       unfold callX at hs;split at hs
       · rename_i hcb
         rw [hP] at hcb;split at hs
         · have hs:=panOf_some hs
           obtain ⟨vs,hrun,hav⟩:=enter_run hov hop hcal hcb;unfold Oper.wp;rw [hrun,Oper.upon_enter];refine (hc k _ h _ h' m w _ hr hav hs).mono fun e w' hend=>?_
           obtain ⟨v,m',he,hE⟩:=hend;subst he;exact hQ v w' m' hE
         · cases hs
       · cases hs
     · cases hs
   · cases hs
 · cases hs
theorem SR.put {m m':M}{st:St}{a:Act}{w w':World}{d:D}{v:Value}{h':H}(h:SR dfs m st a w)(hE:Eff m w st.h d v w' h' m')(dst:Option Tmp):SR dfs m' (St.put { st with h:=h' } dst d) (a.put dst v) w':=by
 have base:SR dfs m' { st with h:=h' } a w':=⟨hE.hr,h.size,fun i hi=>hE.ext.vr (h.env i hi) (h.refs i hi),fun i hi=>D.refsB_mono hE.next _ (h.refs i hi),h.defers⟩
 cases dst with
 | none=>exact base
 | some t =>
  have hsz:(a.put (some t) v).tmps.size=st.n:=by simp [Act.put,h.size]
  refine ⟨hE.hr,hsz,fun i hi=>?_,fun i hi=>?_,h.defers⟩
  · simp only [St.put] at hi ⊢
    by_cases e:i=t
    · subst e
      rw [upd_same];have:(a.put (some i) v).tmps.getD i undef=v:=by
       have:i<a.tmps.size:=by rw [h.size]; exact hi
       simp [Act.put,this]
      rw [this];exact hE.vr
    · rw [upd_ne _ _ e]
      have:(a.put (some t) v).tmps.getD i undef=a.tmps.getD i undef:=by
       have hne:t≠i:=fun e'=>e e'.symm
       simp [Act.put,Array.getElem?_setIfInBounds_ne hne]
      rw [this];exact base.env i hi
  · simp only [St.put] at hi ⊢
    by_cases e:i=t
    · subst e; rw [upd_same]; exact hE.refs
    · rw [upd_ne _ _ e]; exact base.refs i hi
theorem SR.putUndef {m:M}{st:St}{a:Act}{w:World}(h:SR dfs m st a w)(dst:Option Tmp):SR dfs m (st.put dst (.tup [])) (a.put dst undef) w:=by
 have:=h.put (d:=.tup []) (v:=undef) (h':=st.h) (m':=m) (w':=w) ⟨h.hr,.tup rfl (fun i d v hd=>by simp at hd),Ext.refl _ _ _,rfl,Nat.le_refl _,rfl⟩ dst
 cases st;exact this
structure Left (m:M) (w:World) (st:St) (m':M) (w':World) (st':St):Prop where
 ext:Ext st.h.next m w m' w'
 next:st.h.next≤st'.h.next
 marks:st'.h.marks=st.h.marks
 n:st'.n=st.n
theorem Left.refl (m:M)(w:World)(st:St):Left m w st m w st:=⟨Ext.refl _ _ _,Nat.le_refl _,rfl,rfl⟩
theorem Left.trans {m m1 m2:M}{w w1 w2:World}{st st1 st2:St}(h:Left m w st m1 w1 st1)(k:Left m1 w1 st1 m2 w2 st2):Left m w st m2 w2 st2 :=
 ⟨h.ext.trans k.ext h.next,Nat.le_trans h.next k.next,k.marks.trans h.marks,k.n.trans h.n⟩
theorem put_h (st:St)(dst:Option Tmp)(d:D):(st.put dst d).h=st.h∧(st.put dst d).n=st.n:=by
 cases dst<;>exact ⟨rfl,rfl⟩
theorem yield_sound {m:M}{st:St}{a:Act}{w:World}(h:SR dfs m st a w){ops:Array Oper}{j:Nat}{y:Option Bool}(hy:yieldD ops st j=some y):yielded ops a.tmps j=y:=by
 unfold yieldD at hy;unfold yielded
 cases hd:(ops[j]?).bind (·.dst) with
 | none=>simp [hd] at hy
 | some t =>
  simp only [hd] at hy;split at hy
  · rename_i hlt
    have hlt':t<a.tmps.size:=by rw [h.size]; exact hlt
    split at hy
    · rename_i b' hb
      cases hy;have:=h.env t hlt;rw [hb] at this;generalize hv:a.tmps.getD t undef=v at this
      cases this with
      | t hx =>
      cases hx;simp only [Option.bind_some,Array.getElem?_eq_getElem hlt'];have:a.tmps[t] = .bool b':=by simpa [hlt'] using hv
      rw [this]
    · rename_i hb
      cases hy;have:=h.env t hlt;rw [hb] at this;generalize hv:a.tmps.getD t undef=v at this
      cases this with
      | tup hl hx =>
      simp only [Option.bind_some,Array.getElem?_eq_getElem hlt'];rename_i vs;have:a.tmps[t] = .tuple vs:=by simpa [hlt'] using hv
      rw [this]
    · cases hy
  · cases hy
theorem oper_put {cx:Cc}{call:ACall}(hP:cx.P=P)(hc:CallOK P call){m:M}{w:World}{st st':St}{a:Act}(h:SR dfs m st a w){ops:Array Oper}{o:Oper}(ho:oper cx call ops o st=some st')
  {K:Act→World→Prop} {Q:Exit→Act→World→Prop} (hK:∀ v w' m',SR dfs m' st' (a.put o.dst v) w'→Left m w st m' w' st'→K (a.put o.dst v) w') :
  if Region.wanted o (yielded ops a.tmps) then o.wp P a w K Q else K (a.put o.dst undef) w:=by
 have run:runOper cx call o st=some st'→o.wp P a w K Q:=by
  intro hrun;unfold runOper at hrun;split at hrun
  · rename_i ds hds
    unfold thenR at hrun;split at hrun
    · rename_i d h' hst
      cases hrun;refine step_wp hP hc h.hr (evs_sound h hds) hst fun v w' m' hE=>hK _ _ m' (h.put hE o.dst) ⟨hE.ext,?_,?_,?_⟩
      · rw [(put_h _ _ _).1]; exact hE.next
      · rw [(put_h _ _ _).1]; exact hE.marks
      · rw [(put_h _ _ _).2]
    · cases hrun
  · cases hrun
 unfold oper at ho
 cases hg:o.guard with
 | none =>
  rw [hg] at ho;simp only [Region.wanted,hg,if_true];exact run ho
 | some jw =>
  obtain ⟨j,want⟩:=jw;rw [hg] at ho;simp only at ho;split at ho
  · rename_i y hy
    have hyy:=yield_sound h hy;simp only [Region.wanted,hg,hyy];split at ho
    · rename_i hbw
      subst hbw;simp only [beq_self_eq_true,if_true];exact run ho
    · rename_i hbw
      cases ho;have:(y == some want)=false:=by simpa using hbw
      simp only [this,Bool.false_eq_true,if_false];refine hK _ _ m (h.putUndef o.dst) ⟨?_,?_,?_,?_⟩
      · exact Ext.refl _ _ _
      · rw [(put_h _ _ _).1]; exact Nat.le_refl _
      · rw [(put_h _ _ _).1]
      · rw [(put_h _ _ _).2]
  · cases ho
theorem oper_sound {cx:Cc}{call:ACall}(hP:cx.P=P)(hc:CallOK P call){m:M}{w:World}{st st':St}{a:Act}(h:SR dfs m st a w){ops:Array Oper}{o:Oper}(ho:oper cx call ops o st=some st')
 {K:Act→World→Prop} {Q:Exit→Act→World→Prop} (hK:∀ a' w' m',SR dfs m' st' a' w'→Left m w st m' w' st'→K a' w') :
 if Region.wanted o (yielded ops a.tmps) then o.wp P a w K Q else K (a.put o.dst undef) w:=oper_put hP hc h ho fun v w' m' h' hl=>hK _ w' m' h' hl
theorem opList_sound {cx:Cc}{call:ACall}(hP:cx.P=P)(hc:CallOK P call){ops:Array Oper}{Q:Exit→Act→World→Prop}:∀ (l:List Oper) {m:M} {w:World} {st st':St} {a:Act} (_:SR dfs m st a w) (_:opList cx call ops l st=some st')
  (_:∀ a' w' m',SR dfs m' st' a' w'→Left m w st m' w' st'→Q .normal a' w'),wpList P ops Q l a w
 | [],m,w,st,st',a,h,hl,hQ=>by
  simp only [opList,Option.some.injEq] at hl;subst hl;exact hQ a w m h (Left.refl _ _ _)
 | o::os,m,w,st,st',a,h,hl,hQ=>by
  simp only [opList,thenA] at hl;split at hl
  · rename_i st1 ho
    have:=oper_sound hP hc h ho (K:=wpList P ops Q os) (Q:=Q) fun a1 w1 m1 h1 hl1=>opList_sound hP hc os h1 hl fun a' w' m' h' hl'=>hQ a' w' m' h' (hl1.trans hl')
    unfold wpList;split
    · rename_i hw; rw [if_pos hw] at this; exact .inl this
    · rename_i hw; rw [if_neg hw] at this; exact this
  · cases hl
structure PanE (dfs:List Deferred) (m:M) (w:World) (st:St) (x:T) (st':St) (v:Value) (m':M) (w':World) (a':Act):Prop where
 sr:SR dfs m' st' a' w'
 tr:TR w' m'.blocks x v
 left:Left m w st m' w' st'
theorem PanE.trans {m m1 m2:M}{w w1 w2:World}{st st1:St}{x:T}{st':St}{v:Value}{a':Act}(k:PanE dfs m1 w1 st1 x st' v m2 w2 a')(hl:Left m w st m1 w1 st1):PanE dfs m w st x st' v m2 w2 a' :=
 ⟨k.sr,k.tr,hl.trans k.left⟩
theorem operX_sound {cx:Cc}{call:ACall}(hP:cx.P=P)(hc:CallOK P call){m:M}{w:World}{st:St}{a:Act}(h:SR dfs m st a w){ops:Array Oper}{o:Oper}{x:T}{h':H}(ho:operX cx call ops o st=some (x,h'))
  {K:Act→World→Prop} {Q:Exit→Act→World→Prop} (hQ:∀ v w' m',PanE dfs m w st x { st with h:=h' } v m' w' a→Q (.panic [{ v:=v,recovered:=false }]) a w') :
  Region.wanted o (yielded ops a.tmps)=true∧o.wp P a w K Q:=by
 have run:runX cx call o st=some (x,h')→o.wp P a w K Q:=by
  intro hrun;unfold runX at hrun;split at hrun
  · rename_i ds hds
    refine stepX_wp hP hc h.hr (evs_sound h hds) hrun fun v w' m' hE=>hQ v w' m' ⟨⟨hE.hr,h.size,fun i hi=>hE.ext.vr (h.env i hi) (h.refs i hi),fun i hi=>D.refsB_mono hE.next _ (h.refs i hi),h.defers⟩,hE.tr,⟨hE.ext,hE.next,hE.marks,rfl⟩⟩
  · cases hrun
 unfold operX at ho
 cases hg:o.guard with
 | none =>
  rw [hg] at ho;exact ⟨by simp [Region.wanted,hg],run ho⟩
 | some jw =>
  obtain ⟨j,want⟩:=jw;rw [hg] at ho;simp only at ho;split at ho
  · rename_i y hy
    have hyy:=yield_sound h hy;split at ho
    · rename_i hbw
      subst hbw;exact ⟨by simp [Region.wanted,hg,hyy],run ho⟩
    · cases ho
  · cases ho
theorem panList_sound {cx:Cc}{call:ACall}(hP:cx.P=P)(hc:CallOK P call){ops:Array Oper}{Q:Exit→Act→World→Prop}{x:T}{st':St}:∀ (l:List Oper) {m:M} {w:World} {st:St} {a:Act} (_:SR dfs m st a w) (_:panList cx call ops l st=some (x,st'))
  (_:∀ v a' w' m',PanE dfs m w st x st' v m' w' a'→Q (.panic [{ v:=v,recovered:=false }]) a' w'),wpList P ops Q l a w
 | [],m,w,st,a,h,hl,hQ=>by cases hl
 | o::os,m,w,st,a,h,hl,hQ=>by
  simp only [panList] at hl;split at hl
  · rename_i st1 ho
    have:=oper_sound hP hc h ho (K:=wpList P ops Q os) (Q:=Q) fun a1 w1 m1 h1 hl1=>panList_sound hP hc os h1 hl fun v a' w' m' h'=>hQ v a' w' m' (h'.trans hl1)
    unfold wpList;split
    · rename_i hw; rw [if_pos hw] at this; exact .inl this
    · rename_i hw; rw [if_neg hw] at this; exact this
  · cases hX:operX cx call ops o st with
    | none=>rw [hX] at hl; cases hl
    | some r =>
    obtain ⟨x1,h1⟩:=r;rw [hX] at hl;cases hl;obtain ⟨h1,h2⟩:=operX_sound hP hc h hX (K:=wpList P ops Q os) (Q:=Q) fun v w' m' h'=>hQ v a w' m' h'
    unfold wpList;rw [if_pos h1];exact .inl h2
end
end Vai

namespace Vai
open Go
open Go.RowKit (Below)
variable [Gl]{dfs:List Deferred}
def cnt (S:Nat→Bool):Nat→Nat
 | 0=>0
 | n+1=>cnt S n+if S n then 0 else 1
theorem cnt_zero {S:Nat→Bool}:∀ {n:Nat},cnt S n=0→∀ i,i<n→S i=true
 | 0,_,i,hi=>absurd hi (Nat.not_lt_zero _)
 | n+1,h,i,hi=>by
  simp only [cnt] at h;by_cases e:i=n
  · subst e
    cases hS:S i with
    | true=>rfl
    | false=>rw [hS] at h; simp at h
  · exact cnt_zero (n:=n) (by omega) i (by omega)
def ins (S:Nat→Bool)(i:Nat):Nat→Bool:=fun j=>if j=i then true else S j
theorem cnt_ins_ge {S:Nat→Bool}{i:Nat}:∀ {n:Nat},n≤i→cnt (ins S i) n=cnt S n
 | 0,_=>rfl
 | n+1,h=>by
  simp only [cnt];rw [cnt_ins_ge (n:=n) (by omega)]
  have:ins S i n=S n:=by simp [ins]; omega
  rw [this]
theorem cnt_ins {S:Nat→Bool}{i:Nat}(hS:S i=false):∀ {n:Nat},i<n→cnt (ins S i) n+1=cnt S n
 | 0,h=>absurd h (Nat.not_lt_zero _)
 | n+1,h=>by
  simp only [cnt];by_cases e:i=n
  · subst e
    rw [cnt_ins_ge (Nat.le_refl _)];simp [ins,hS]
  · have h1:=cnt_ins hS (n:=n) (by omega)
    have h2:ins S i n=S n:=by simp [ins]; omega
    rw [h2];omega
def Closed (ops:Array Oper)(S:Nat→Bool):Prop:=∀ i o,S i=true→ops[i]?=some o→∀ e∈o.after,Region.binds .any e=true→S e.on=true
section
variable {P:Program}
theorem any_sound {ops:Array Oper}{Q:Exit→Act→World→Prop}(σ:(Nat→Bool)→St)(hback:∀ i o,ops[i]?=some o→∀ e∈o.after,Region.binds .any e=true→e.on<i)
  (hstep:∀ (S:Nat→Bool) (i:Nat) (o:Oper),Closed ops S→(∀ j,S j=true→j<ops.size)→S i=false→ops[i]?=some o→(∀ e∈o.after,Region.binds .any e=true→S e.on=true) →
    ∀ (m:M) (a:Act) (w:World),SR dfs m (σ S) a w→∀ (K:Act→World→Prop),(∀ a' w' m',SR dfs m' (σ (ins S i)) a' w'→Left m w (σ S) m' w' (σ (ins S i))→K a' w') →
      if Region.wanted o (yielded ops a.tmps) then o.wp P a w K Q else K (a.put o.dst undef) w)
  (hfin:∀ S S':Nat→Bool,(∀ i,i<ops.size→S i=S' i)→σ S=σ S') :
  ∀ (fuel:Nat) (S:Nat→Bool) (listed:Array Bool) (m:M) (a:Act) (w:World),listed.size=ops.size→(∀ i,S i=listed.getD i false)→Closed ops S→cnt S ops.size=fuel→SR dfs m (σ S) a w →
    (∀ a' w' m',SR dfs m' (σ fun _=>true) a' w'→Left m w (σ S) m' w' (σ fun _=>true)→Q .normal a' w')→wpAny P .any ops Q fuel listed a w:=by
 have full:∀ {S:Nat→Bool} {listed:Array Bool},listed.size=ops.size→(∀ i,S i=listed.getD i false)→Region.ready .any ops listed=[]→∀ i,i<ops.size→S i=true:=by
  intro S listed hsz hS hr i
  induction i using Nat.strongRecOn with
  | _ i ih =>
    intro hi
    cases hSi:S i with
    | true=>rfl
    | false =>
      exfalso;have hmem:i∈Region.ready .any ops listed:=by
        refine mem_ready.2 ⟨?_,ops[i],by simp [hi],fun e he hb=>?_⟩
        · have h1:=hS i
          rw [hSi] at h1;have:i<listed.size:=by omega
          simp [this] at h1 ⊢;exact h1
        · rw [←hS]
          have hlt:=hback i ops[i] (by simp [hi]) e he hb
          exact ih _ hlt (by omega)
      rw [hr] at hmem;cases hmem
 intro fuel
 induction fuel with
 | zero =>
  intro S listed m a w hsz hS hcl hcnt hsr hQ;have hall:=cnt_zero hcnt;have hr:Region.ready .any ops listed=[]:=by
    cases hrr:Region.ready .any ops listed with
    | nil=>rfl
    | cons i rest =>
      exfalso;have hi:i∈Region.ready .any ops listed:=by rw [hrr]; exact List.mem_cons_self
      obtain ⟨h1,o,ho,_⟩:=mem_ready.1 hi;have hlt:i<ops.size:=(Array.getElem?_eq_some_iff.1 ho).1;have h2:=hall i hlt;rw [hS] at h2;have:i<listed.size:=by omega
      simp [this] at h1 h2;rw [h1] at h2;cases h2
  refine ⟨hr,?_⟩;have he:σ S=σ fun _=>true:=hfin _ _ fun i hi=>hall i hi
  rw [he] at hsr hQ;exact hQ a w m hsr (Left.refl _ _ _)
 | succ fuel ih =>
  intro S listed m a w hsz hS hcl hcnt hsr hQ;refine ⟨fun hr=>?_,fun i hi=>?_⟩
  · have he:σ S=σ fun _=>true:=hfin _ _ fun i hi=>full hsz hS hr i hi
    rw [he] at hsr hQ;exact hQ a w m hsr (Left.refl _ _ _)
  · obtain ⟨h1,o,ho,hall⟩:=mem_ready.1 hi
    have hlt:i<ops.size:=(Array.getElem?_eq_some_iff.1 ho).1;have hlt':i<listed.size:=by omega
    have hSi:S i=false:=by
      rw [hS];simp [hlt'] at h1 ⊢;exact h1
    have hready:∀ e∈o.after,Region.binds .any e=true→S e.on=true:=fun e he hb=>by rw [hS]; exact hall e he hb
    have hdom:∀ j,S j=true→j<ops.size:=fun j hj=>by
      rw [hS] at hj;rcases Nat.lt_or_ge j listed.size with h'|h'
      · omega
      · simp [Array.getElem?_eq_none h'] at hj
    have hS':∀ j,ins S i j=(listed.setIfInBounds i true).getD j false:=fun j=>by
      simp only [ins];by_cases e:j=i
      · subst e; simp [hlt']
      · rw [if_neg e,getD_set_ne false (fun h=>e h.symm)]; exact hS j
    have hcl':Closed ops (ins S i):=fun k ok hk hok e he hb=>by
      have hmono:S e.on=true→ins S i e.on=true:=fun h=>by simp [ins,h]
      by_cases e':k=i
      · subst e'
        rw [ho] at hok;cases hok;exact hmono (hready e he hb)
      · simp only [ins,if_neg e'] at hk
        exact hmono (hcl k ok hk hok e he hb)
    have:=hstep S i o hcl hdom hSi ho hready m a w hsr (wpAny P .any ops Q fuel (listed.setIfInBounds i true)) fun a' w' m' h' hl=>by
      refine ih (ins S i) _ m' a' w' (by simp [hsz]) hS' hcl' (by have:=cnt_ins hSi hlt; omega) h' fun a2 w2 m2 h2 hl2=>hQ a2 w2 m2 h2 (hl.trans hl2)
    unfold wpOp;simp only [ho];split
    · rename_i hw; rw [if_pos hw] at this; exact .inl this
    · rename_i hw; rw [if_neg hw] at this; exact this
end
end Vai

namespace Vai
open Go
variable [Gl]
section
variable {cx:Cc}{call:ACall}
theorem allM_congr {α β:Type}{f g:α→Option β}:∀ {l:List α},(∀ x∈l,f x=g x)→allM f l=allM g l
 | [],_=>rfl
 | x::xs,h=>by
  simp only [allM];rw [h x List.mem_cons_self,allM_congr fun y hy=>h y (List.mem_cons_of_mem _ hy)]
theorem ev_congr {st st2:St}{ops:Array Oper}{o:Oper}(hn:st2.n=st.n)(henv:∀ t∈o.looksAt ops,st2.env t=st.env t):allM st2.ev o.op.operands.toList=allM st.ev o.op.operands.toList:=by
 refine allM_congr fun x hx=>?_
 cases x with
 | tmp t =>
  have:t∈o.looksAt ops:=List.mem_append_left _ (List.mem_filterMap.2 ⟨.tmp t,hx,rfl⟩);simp only [St.ev,hn,henv t this]
 | _=>rfl
theorem yield_congr {st st2:St}{ops:Array Oper}{o:Oper}{j:Nat}{want:Bool}(hg:o.guard=some (j,want))(hn:st2.n=st.n)(henv:∀ t∈o.looksAt ops,st2.env t=st.env t):yieldD ops st2 j=yieldD ops st j:=by
 unfold yieldD
 cases hd:(ops[j]?).bind (·.dst) with
 | none=>rfl
 | some t =>
  have:t∈o.looksAt ops:=List.mem_append_right _ (by simp [hg,hd])
  simp only [hn,henv t this]
theorem step_zero {op:Op}{ds:List D}{h h':H}{d:D}(hl:Op.levelD cx op=0)(hs:stepD cx call op ds h=some (d,h')):h'=h∧∀ h2,stepD cx call op ds h2=some (d,h2):=by
 unfold Op.levelD at hl;split at hl
 · rename_i hk
   simp only [stepD,hk] at hs ⊢;obtain ⟨d0,hp,he⟩:=Option.map_eq_some_iff.1 hs;cases he;exact ⟨rfl,fun h2=>by simp [hp]⟩
 · cases hl
 · cases hl
 · split at hl
   · split at hl
     · split at hl<;>cases hl
     · cases hl
   · cases hl
theorem callPure_heap {k:FuncId}{args:List D}{h h':H}{d:D}(hc:callPure call k args h=some (d,h')):h'=h:=by
 unfold callPure at hc
 repeat' split at hc
 all_goals first
  | (cases hc; done)
  | (simp only [Option.some.injEq,Prod.mk.injEq] at hc; exact hc.2.symm)
theorem callTree_heap {k:FuncId}{args:List D}{h h':H}{d:D}(hc:callTree call k args h=some (d,h')):h'=h:=by
 unfold callTree treeOut at hc
 repeat' split at hc
 all_goals first
  | (cases hc; done)
  | (simp only [Option.some.injEq,Prod.mk.injEq] at hc; exact hc.2.symm)
theorem step_keep {st:St}{op:Op}{ds:List D}{h h':H}{d:D}(hl:Op.levelD cx op≠2)(hds:allM st.ev op.operands.toList=some ds)(hs:stepD cx call op ds h=some (d,h')):h'=h:=by
 unfold Op.levelD at hl;unfold stepD at hs;split at hl
 · rename_i hk
   simp only [hk] at hs;obtain ⟨d0,hp,he⟩:=Option.map_eq_some_iff.1 hs;cases he; rfl
 · rename_i hk
   simp only [hk] at hs;obtain ⟨d0,hp,he⟩:=Option.map_eq_some_iff.1 hs;cases he; rfl
 · exact absurd rfl hl
 · rename_i hk0 hk1 hk2
   split at hs
   · rename_i hk; exact absurd hk hk0
   · rename_i hk; exact absurd hk hk1
   · rename_i hk; exact absurd hk hk2
   · split at hl
     · rename_i c _ _ _
       split at hl
       · rename_i k hcal
         split at hl
         · rename_i hmd
           split at hs
           · rename_i k2 fs cs rest
             simp only [hcal] at hs;have hops:(Go.Op.call c).operands.toList = .func k::c.args.toList:=by simp [Op.operands,Go.Call.operands,hcal]
             rw [hops] at hds;simp only [allM,St.ev] at hds;have hk2:k2=k:=by
               split at hds
               · cases hds
               · cases hds; rfl
             subst hk2;unfold callD at hs;split at hs
             · rcases hmd with hmd|hmd
               · rw [hmd] at hs
                 exact callPure_heap hs
               · rw [hmd] at hs
                 exact callTree_heap hs
             · cases hs
           · cases hs
         · exact absurd rfl hl
       · exact absurd rfl hl
     · exact absurd rfl hl
theorem oper_frame {ops:Array Oper}{o:Oper}{st st':St}(ho:oper cx call ops o st=some st') :
  ∃ d,st'=St.put { st with h:=st'.h } o.dst d∧(Op.levelD cx o.op≠2→st'.h=st.h) ∧
    ∀ st2:St,st2.n=st.n→(∀ t∈o.looksAt ops,st2.env t=st.env t)→(Op.levelD cx o.op=0∨st2.h=st.h) →
      oper cx call ops o st2=some (St.put { st2 with h:=if Op.levelD cx o.op=2 then st'.h else st2.h } o.dst d):=by
 have run:runOper cx call o st=some st'→∃ d,st'=St.put { st with h:=st'.h } o.dst d∧(Op.levelD cx o.op≠2→st'.h=st.h) ∧
    ∀ st2:St,st2.n=st.n→(∀ t∈o.looksAt ops,st2.env t=st.env t)→(Op.levelD cx o.op=0∨st2.h=st.h) →
      runOper cx call o st2=some (St.put { st2 with h:=if Op.levelD cx o.op=2 then st'.h else st2.h } o.dst d):=by
  intro hrun;unfold runOper at hrun;split at hrun
  · rename_i ds hds
    unfold thenR at hrun;split at hrun
    · rename_i d h' hst
      cases hrun;refine ⟨d,by rw [(put_h _ _ _).1],fun hl=>?_,fun st2 hn henv hh=>?_⟩
      · rw [(put_h _ _ _).1]
        exact step_keep hl hds hst
      · unfold runOper
        rw [ev_congr hn henv,hds];simp only [(put_h _ _ _).1];by_cases h0:Op.levelD cx o.op=0
        · obtain ⟨_,h2⟩:=step_zero h0 hst
          rw [h2];simp [thenR,h0]
        · have he:=hh.resolve_left h0
          rw [he,hst];by_cases h2:Op.levelD cx o.op=2
          · simp [thenR,h2]
          · have:=step_keep h2 hds hst
            simp [thenR,h2,this]
    · cases hrun
  · cases hrun
 unfold oper at ho
 cases hg:o.guard with
 | none =>
  rw [hg] at ho;obtain ⟨d,h1,h2,h3⟩:=run ho;exact ⟨d,h1,h2,fun st2 a b c=>by unfold oper; rw [hg]; exact h3 st2 a b c⟩
 | some jw =>
  obtain ⟨j,want⟩:=jw;rw [hg] at ho;simp only at ho;split at ho
  · rename_i b hy
    split at ho
    · rename_i hbw
      obtain ⟨d,h1,h2,h3⟩:=run ho;exact ⟨d,h1,h2,fun st2 hn he c=>by
        unfold oper; rw [hg];simp only [yield_congr hg hn he,hy,hbw,if_true];exact h3 st2 hn he c⟩
    · rename_i hbw
      cases ho;refine ⟨.tup [],by rw [(put_h _ _ _).1],fun _=>(put_h _ _ _).1,fun st2 hn he c=>?_⟩
      unfold oper; rw [hg];simp only [yield_congr hg hn he,hy,hbw,if_false,(put_h _ _ _).1];by_cases h2:Op.levelD cx o.op=2
      · have:=c.resolve_left (by omega)
        rw [if_pos h2,←this]
      · rw [if_neg h2]
  · cases ho
theorem opList_append {ops:Array Oper}:∀ (l1 l2:List Oper) (st:St),opList cx call ops (l1++l2) st=thenA (opList cx call ops l1 st) (opList cx call ops l2)
 | [],l2,st=>rfl
 | o::os,l2,st=>by
  simp only [List.cons_append,opList,thenA]
  cases oper cx call ops o st with
  | none=>rfl
  | some st1=>exact opList_append os l2 st1
def stAt (cx:Cc)(call:ACall)(ops:Array Oper)(st:St)(i:Nat):St:=(opList cx call ops (ops.toList.take i) st).getD st
theorem stAt_step {ops:Array Oper}{st fin:St}(h:opList cx call ops ops.toList st=some fin){i:Nat}{o:Oper}(ho:ops[i]?=some o):oper cx call ops o (stAt cx call ops st i)=some (stAt cx call ops st (i+1)):=by
 have hpre:∀ k,∃ s,opList cx call ops (ops.toList.take k) st=some s:=by
  intro k;have:=opList_append (cx:=cx) (call:=call) (ops:=ops) (ops.toList.take k) (ops.toList.drop k) st;rw [List.take_append_drop,h] at this
  cases hs:opList cx call ops (ops.toList.take k) st with
  | none=>rw [hs] at this; cases this
  | some s=>exact ⟨s,rfl⟩
 obtain ⟨s1,h1⟩:=hpre i;obtain ⟨s2,h2⟩:=hpre (i+1);have hol:ops.toList[i]?=some o:=by simpa using ho
 have ht:ops.toList.take (i+1)=ops.toList.take i ++ [o]:=by rw [List.take_add_one,hol]; rfl
 have h3:=h2;rw [ht,opList_append,h1] at h3;simp only [thenA,opList] at h3;simp only [stAt,h1,h2,Option.getD_some]
 cases hop:oper cx call ops o s1 with
 | none=>rw [hop] at h3; cases h3
 | some s=>rw [hop] at h3; simpa using h3
theorem stAt_zero {ops:Array Oper}{st:St}:stAt cx call ops st 0=st:=by simp [stAt,opList]
theorem stAt_end {ops:Array Oper}{st fin:St}(h:opList cx call ops ops.toList st=some fin):stAt cx call ops st ops.size=fin:=by
 have:ops.toList.take ops.size=ops.toList:=List.take_of_length_le (by simp)
 simp [stAt,this,h]
theorem foldl_bits {es:List Edge}{acc:List Nat}:∀ (s j:Nat),(es.foldl (fun s e=>if Region.binds .any e then s |||(2 ^ e.on |||acc.getD e.on 0) else s) s).testBit j=true →
  s.testBit j=true∨∃ e∈es,Region.binds .any e=true∧(e.on=j∨(acc.getD e.on 0).testBit j=true):=by
 induction es with
 | nil=>intro s j h; exact .inl h
 | cons e es ih =>
  intro s j h;simp only [List.foldl_cons] at h;rcases ih _ j h with h1|⟨e',he',hb,hh⟩
  · split at h1
    · rename_i hb
      simp only [Nat.testBit_or,Nat.testBit_two_pow,Bool.or_eq_true,decide_eq_true_eq] at h1;rcases h1 with h1|h1|h1
      · exact .inl h1
      · exact .inr ⟨e,List.mem_cons_self,hb,.inl h1⟩
      · exact .inr ⟨e,List.mem_cons_self,hb,.inr h1⟩
    · exact .inl h1
  · exact .inr ⟨e',List.mem_cons_of_mem _ he',hb,hh⟩
theorem masks_spec {S:Nat→Bool}{ops:Array Oper}(hcl:Closed ops S):∀ (l:List Oper) (acc:List Nat),(∀ k,l[k]? = ops[acc.length+k]?) →
  (∀ (i:Nat) (o:Oper),i<acc.length→ops[i]?=some o→(∀ e∈o.after,Region.binds .any e=true→S e.on=true)→∀ j,(acc.getD i 0).testBit j=true→S j=true) →
  ∀ (i:Nat) (o:Oper),i<acc.length+l.length→ops[i]?=some o→(∀ e∈o.after,Region.binds .any e=true→S e.on=true)→∀ j,((masks l acc).getD i 0).testBit j=true→S j=true
 | [],acc,_,hacc,i,o,hi,ho,ha,j,hj=>hacc i o (by simpa using hi) ho ha j (by simpa [masks] using hj)
 | p::ps,acc,hl,hacc,i,o,hi,ho,ha,j,hj=>by
  rw [masks] at hj;refine masks_spec hcl ps _ (fun k=>?_) (fun i o hi ho ha j hj=>?_) i o (by simp only [List.length_append,List.length_cons,List.length_nil] at hi ⊢; omega) ho ha j hj
  · have:=hl (k+1)
    simp only [List.getElem?_cons_succ] at this;rw [this];simp only [List.length_append,List.length_cons,List.length_nil];congr 1; omega
  · by_cases e:i<acc.length
    · rw [List.getD_eq_getElem?_getD,List.getElem?_append_left e,←List.getD_eq_getElem?_getD] at hj
      exact hacc i o e ho ha j hj
    · have hi':i=acc.length:=by simp only [List.length_append,List.length_cons,List.length_nil] at hi; omega
      subst hi';have hp:o=p:=by
        have:=hl 0;simp only [List.getElem?_cons_zero,Nat.add_zero] at this;rw [ho] at this;exact (Option.some.inj this).symm
      subst hp;rw [List.getD_eq_getElem?_getD,List.getElem?_append_right (Nat.le_refl _)] at hj;simp only [Nat.sub_self,List.getElem?_cons_zero,Option.getD_some] at hj;rcases foldl_bits 0 j hj with h1|⟨e',he',hb,hh⟩
      · simp at h1
      · have hS:=ha e' (by simpa using he') hb
        rcases hh with rfl|hh
        · exact hS
        · have hlt:e'.on<acc.length:=by
           rcases Nat.lt_or_ge e'.on acc.length with h'|h'
           · exact h'
           · rw [List.getD_eq_getElem?_getD,List.getElem?_eq_none h'] at hh
             simp at hh
          cases hoe:ops[e'.on]? with
          | none =>
           exfalso;have h1:=Array.getElem?_eq_none_iff.1 hoe;have h2:=(Array.getElem?_eq_some_iff.1 ho).1;omega
          | some oe=>exact hacc e'.on oe hlt hoe (fun e he hb=>hcl e'.on oe hS hoe e he hb) j hh
end
end Vai

namespace Vai
open Go
open Go.RowKit (Below)
variable [Gl]{dfs:List Deferred}
section
variable (dst:Nat→Option Tmp)(cd:Nat→D)(lev:Nat→Nat)(hs:Nat→H)
def envU (S:Nat→Bool)(e0:Nat→D):Nat→(Nat→D)
 | 0=>e0
 | k+1=>if S k then (match dst k with|some t=>upd (envU S e0 k) t (cd k)|none=>envU S e0 k) else envU S e0 k
def hU (S:Nat→Bool)(h0:H):Nat→H
 | 0=>h0
 | k+1=>if S k=true∧lev k=2 then hs (k+1) else hU S h0 k
variable {dst cd lev hs}
theorem envU_same {S S':Nat→Bool}{e0:Nat→D}{t:Tmp}:∀ {k:Nat},(∀ j,j<k→S j=S' j∨dst j≠some t)→envU dst cd S e0 k t=envU dst cd S' e0 k t
 | 0,_=>rfl
 | k+1,h=>by
  have ih:=envU_same (S:=S) (S':=S') (e0:=e0) (t:=t) (k:=k) fun j hj=>h j (by omega)
  simp only [envU]
  cases hd:dst k with
  | none=>simp [ih]
  | some u =>
   simp only;by_cases e:u=t
   · subst e
     have:S k=S' k:=(h k (Nat.lt_succ_self _)).resolve_right fun hn=>hn hd
     rw [this];split
     · rw [upd_same,upd_same]
     · exact ih
   · have h1:∀ (f:Nat→D),upd f u (cd k) t=f t:=fun f=>upd_ne _ _ fun e'=>e e'.symm
     have h2:∀ (b:Bool) (f:Nat→D),(if b=true then upd f u (cd k) else f) t=f t:=fun b f=>by split<;>simp [h1]
     rw [h2,h2];exact ih
theorem envU_more {S : Nat → Bool} {e0 : Nat → D} {t : Tmp} {k : Nat} : ∀ {n : Nat}, k ≤ n → (∀ j, k ≤ j → j < n → S j = true → dst j ≠ some t) → envU dst cd S e0 n t = envU dst cd S e0 k t
  | 0, hk, _ => by obtain rfl : k = 0 := by omega
                   rfl
  | n + 1, hk, h => by
    by_cases e : k = n + 1
    · subst e; rfl
    · have ih := envU_more (S := S) (e0 := e0) (t := t) (k := k) (n := n) (by omega) fun j h1 h2 => h j h1 (by omega)
      simp only [envU];split
      · rename_i hS
        have := h n (by omega) (Nat.lt_succ_self _) hS
        cases hd : dst n with
        | none => exact ih
        | some u =>
          have hne : t ≠ u := fun e => this (by rw [hd, e])
          simp only [upd_ne _ _ hne];exact ih
      · exact ih
theorem upd_comm {α:Type}(f:Nat→α){i j:Nat}(x y:α)(h:i≠j):upd (upd f i x) j y=upd (upd f j y) i x:=by
 funext k
 simp only [upd];by_cases h1:k=j<;>by_cases h2:k=i<;>simp [h1,h2]
 · exact absurd (h2.symm.trans h1) h
 · intro e; exact absurd e.symm h
 · intro e; exact absurd e h
def putE (f:Nat→D)(dst:Option Tmp)(d:D):Nat→D:=match dst with|some t=>upd f t d|none=>f
theorem envU_ins_ge {S:Nat→Bool}{e0:Nat→D}{i:Nat}:∀ {n:Nat},n≤i→envU dst cd (ins S i) e0 n=envU dst cd S e0 n
 | 0,_=>rfl
 | n+1,h=>by
  have h2:ins S i n=S n:=by simp [ins]; omega
  have ih:=envU_ins_ge (S:=S) (e0:=e0) (i:=i) (n:=n) (by omega)
  simp only [envU,h2,ih]
theorem envU_ins {S:Nat→Bool}{e0:Nat→D}{i:Nat}(hS:S i=false):∀ {n:Nat},i<n→(∀ j,i<j→S j=true→∀ t,dst i=some t→dst j≠some t)→envU dst cd (ins S i) e0 n=putE (envU dst cd S e0 n) (dst i) (cd i)
 | 0,h,_=>absurd h (Nat.not_lt_zero _)
 | n+1,h,hj=>by
  by_cases e:i=n
  · subst e
    simp only [envU,envU_ins_ge (Nat.le_refl _),hS,putE];simp [ins]
  · have ih:=envU_ins (e0:=e0) hS (n:=n) (by omega) hj
    have h2:ins S i n=S n:=by simp [ins]; omega
    simp only [envU,h2,ih];split
    · rename_i hSn
      have hne:=hj n (by omega) hSn
      cases hd:dst n with
      | none=>rfl
      | some u =>
       cases hdi:dst i with
       | none=>rfl
       | some t =>
        simp only [putE];exact upd_comm _ _ _ fun e=>hne t hdi (by rw [hd,e])
    · rfl
theorem hU_same {S S':Nat→Bool}{h0:H}:∀ {k:Nat},(∀ j,j<k→S j=S' j∨lev j≠2)→hU lev hs S h0 k=hU lev hs S' h0 k
 | 0,_=>rfl
 | k+1,h=>by
  have ih:=hU_same (S:=S) (S':=S') (h0:=h0) (k:=k) fun j hj=>h j (by omega)
  simp only [hU,ih];rcases h k (Nat.lt_succ_self _) with h1|h1
  · rw [h1]
  · simp [h1]
theorem hU_more {S : Nat → Bool} {h0 : H} {k : Nat} : ∀ {n : Nat}, k ≤ n → (∀ j, k ≤ j → j < n → S j = true → lev j ≠ 2) → hU lev hs S h0 n = hU lev hs S h0 k
  | 0, hk, _ => by obtain rfl : k = 0 := by omega
                   rfl
  | n + 1, hk, h => by
    by_cases e : k = n + 1
    · subst e; rfl
    · have ih := hU_more (S := S) (h0 := h0) (k := k) (n := n) (by omega) fun j h1 h2 => h j h1 (by omega)
      simp only [hU];rw [if_neg fun hh => h n (by omega) (Nat.lt_succ_self _) hh.1 hh.2]
      exact ih
theorem hU_ins_ge {S:Nat→Bool}{h0:H}{i:Nat}:∀ {n:Nat},n≤i→hU lev hs (ins S i) h0 n=hU lev hs S h0 n
 | 0,_=>rfl
 | n+1,h=>by
  have h2:ins S i n=S n:=by simp [ins]; omega
  have ih:=hU_ins_ge (S:=S) (h0:=h0) (i:=i) (n:=n) (by omega)
  simp only [hU,h2,ih]
theorem hU_ins {S:Nat→Bool}{h0:H}{i:Nat}(hS:S i=false):∀ {n:Nat},i<n→(∀ j,i<j→S j=true→lev i=2→lev j≠2)→hU lev hs (ins S i) h0 n=if lev i=2 then hs (i+1) else hU lev hs S h0 n
 | 0,h,_=>absurd h (Nat.not_lt_zero _)
 | n+1,h,hj=>by
  by_cases e:i=n
  · subst e
    simp only [hU,hU_ins_ge (Nat.le_refl _),hS];simp [ins]
  · have ih:=hU_ins (h0:=h0) hS (n:=n) (by omega) hj
    have h2:ins S i n=S n:=by simp [ins]; omega
    simp only [hU,h2,ih];split
    · rename_i hh
      rw [if_neg fun h3=>hj n (by omega) hh.1 h3 hh.2]
    · rfl
end
theorem okRegion_spec {cx:Cc}{ops:Array Oper}(h:okRegion cx ops=true){i:Nat}{o:Oper}(ho:ops[i]?=some o) :
   (∀ e∈o.after,Region.binds .any e=true→e.on<i)∧∀ (j:Nat) (p:Oper),j<i→ops[j]?=some p→((masks ops.toList []).getD i 0).testBit j=true∨(p.apart ops o=true∧clash (Op.levelD cx p.op) (Op.levelD cx o.op)=false):=by
 have hi:i<ops.size:=(Array.getElem?_eq_some_iff.1 ho).1;simp only [okRegion,List.all_eq_true,List.mem_range] at h;have h1:=h i hi;simp only [ho,Bool.and_eq_true,List.all_eq_true,List.mem_range] at h1;refine ⟨fun e he hb=>?_,fun j p hj hp=>?_⟩
 · have:=h1.1.2 e (by simpa using he)
   simpa [hb] using this
 · have:=h1.2 j hj
   simp only [hp,Bool.or_eq_true,indep,Bool.and_eq_true,Bool.not_eq_true'] at this;exact this
section
variable {P:Program}
theorem region_easy {cx:Cc}{call:ACall}(hP:cx.P=P)(hmix:P.follows .mixedOrders=true)(hc:CallOK P call){ops:Array Oper}{id:Nat}{m:M}{w:World}{st fin:St}{a:Act}{Q:Exit→Act→World→Prop}
   (hok:okRegion cx ops=true) (hsr:SR dfs m st a w) (hrun:opList cx call ops ops.toList st=some fin) (hQ:∀ a' w' m',SR dfs m' fin a' w'→Left m w st m' w' fin→Q .normal a' w'):(Code.region id ops true).wp P Q a w:=by
 let sts:=stAt cx call ops st
 let dst:Nat→Option Tmp:=fun i=>(ops[i]?).bind (·.dst)
 let cd:Nat→D:=fun i=>match dst i with|some t=>(sts (i+1)).env t|none=>.undef
 let lev:Nat→Nat:=fun i=>((ops[i]?).map fun o=>Op.levelD cx o.op).getD 0
 let hs:Nat→H:=fun i=>(sts i).h
 let σ:(Nat→Bool)→St:=fun S=>⟨st.n,envU dst cd S st.env ops.size,hU lev hs S st.h ops.size⟩
 have hdst:∀ {i:Nat} {o:Oper},ops[i]?=some o→dst i=o.dst:=fun {i o} ho=>by simp [dst,ho]
 have hlev:∀ {i:Nat} {o:Oper},ops[i]?=some o→lev i=Op.levelD cx o.op:=fun {i o} ho=>by simp [lev,ho]
 have hcd:∀ {i:Nat} {o:Oper} {d:D},ops[i]?=some o→sts (i+1)=St.put { sts i with h:=(sts (i+1)).h } o.dst d→∀ s:St,s.put o.dst d=s.put o.dst (cd i):=by
   intro i o d ho he s
   cases hd:o.dst with
   | none=>rfl
   | some t =>
    have h1:cd i=(sts (i+1)).env t:=by simp only [cd,hdst ho,hd]
    have h2:cd i=d:=by
      rw [h1,he,hd];simp only [St.put];exact upd_same _ _ _
    rw [h2]
 have hputE:∀ (s:St) (dt:Option Tmp) (d:D),s.put dt d=⟨s.n,putE s.env dt d,s.h⟩:=fun s dt d=>by cases dt<;>rfl
 -- the states ahead of each operation
 have hcan:∀ k,k≤ops.size→sts k=⟨st.n,envU dst cd (fun _=>true) st.env k,hU lev hs (fun _=>true) st.h k⟩:=by
   intro k
   induction k with
   | zero=>intro _; exact stAt_zero
   | succ k ih =>
    intro hk;have hk':k<ops.size:=by omega
    have ho:ops[k]?=some ops[k]:=by simp [hk']
    obtain ⟨d,h1,h2,_⟩:=oper_frame (stAt_step hrun ho);have h3:=hcd ho h1;have ihk:=ih (by omega)
    have h4:sts (k+1)=St.put { sts k with h:=(sts (k+1)).h } ops[k].dst (cd k):=by
      rw [←h3]; exact h1
    have h5:(sts (k+1)).h=hU lev hs (fun _=>true) st.h (k+1):=by
      simp only [hU,true_and];split
      · rfl
      · rename_i hl
        rw [hlev ho] at hl;have:=h2 hl;have h6:(sts (k+1)).h=(sts k).h:=this;rw [h6,ihk]
    rw [h4,hputE,h5,ihk];simp only [envU,if_true,hdst ho,putE]
 have hend:sts ops.size=fin:=stAt_end hrun;have hfinσ:σ (fun _=>true)=fin:=by rw [←hend,hcan _ (Nat.le_refl _)]
 have h0σ:σ (fun _=>false)=st:=by
   have h1:∀ k,envU dst cd (fun _=>false) st.env k=st.env:=fun k=>by induction k with
    | zero=>rfl
    | succ k ih=>simp only [envU,ih]; rfl
   have h2:∀ k,hU lev hs (fun _=>false) st.h k=st.h:=fun k=>by induction k with
    | zero=>rfl
    | succ k ih=>simp only [hU,ih]; simp
   simp only [σ,h1,h2]
 refine wp_region_any hmix ?_;have hw:SR dfs m st a { w with drawn:=w.drawn+1 }:=by
   have hb:Below w.heap.size w { w with drawn:=w.drawn+1 }:=⟨rfl,rfl,rfl,Nat.le_refl _,fun _ _=>rfl⟩
   exact ⟨hsr.hr.below_ hb,hsr.size,fun i hi=>(hsr.env i hi).bel hb,hsr.refs,hsr.defers⟩
 have hleft:∀ {m':M} {w':World},Left m { w with drawn:=w.drawn+1 } st m' w' fin→Left m w st m' w' fin:=fun h=>⟨⟨h.ext.os,h.ext.tape,h.ext.output,h.ext.size,h.ext.keep,h.ext.away,h.ext.refs,h.ext.newb⟩,h.next,h.marks,h.n⟩
 have hdomS:∀ i,(fun _:Nat=>false) i=(Array.replicate ops.size false).getD i false:=fun i=>by
   simp only [Array.getD_eq_getD_getElem?,Array.getElem?_replicate];split<;>rfl
 have hcnt:∀ n,cnt (fun _=>false) n=n:=fun n=>by induction n with
   | zero=>rfl
   | succ n ih=>simp [cnt,ih]
 refine any_sound (P:=P) σ (fun i o ho=>(okRegion_spec hok ho).1) (fun S i o hcl hdom hSi ho hready m a w h K hK=>?_) (fun S S' hSS=>?_) ops.size (fun _=>false) _ m a _ (by simp) hdomS (fun _ _ h=>by cases h) (hcnt _) (by rw [h0σ]; exact hw) fun a' w' m' h' hl=>?_
 · have hi:i<ops.size:=(Array.getElem?_eq_some_iff.1 ho).1
   have hpath:∀ j,((masks ops.toList []).getD i 0).testBit j=true→S j=true:=fun j hj=>masks_spec hcl ops.toList [] (fun k=>by simp) (fun i o hi=>by simp at hi) i o (by simpa using hi) ho hready j hj
   have hpath':∀ j p,S j=true→ops[j]?=some p→((masks ops.toList []).getD j 0).testBit i=true→False:=fun j p hSj hp hb=>by
    have:=masks_spec hcl ops.toList [] (fun k=>by simp) (fun i o hi=>by simp at hi) j p (by simpa using hdom j hSj) hp (hcl j p hSj hp) i hb
    rw [hSi] at this;cases this
   -- against the others
   have before:∀ j,j<i→S j=false→∀ p,ops[j]?=some p→p.apart ops o=true∧clash (Op.levelD cx p.op) (Op.levelD cx o.op)=false:=fun j hj hSj p hp=>by
    rcases (okRegion_spec hok ho).2 j p hj hp with h1|h1
    · rw [hpath j h1] at hSj; cases hSj
    · exact h1
   have after:∀ j,i<j→S j=true→∀ p,ops[j]?=some p→o.apart ops p=true∧clash (Op.levelD cx o.op) (Op.levelD cx p.op)=false:=fun j hj hSj p hp=>by
    rcases (okRegion_spec hok hp).2 i o hj ho with h1|h1
    · exact (hpath' j p hSj hp h1).elim
    · exact h1
   have hcani:=hcan i (by omega)
   have henv:∀ t∈o.looksAt ops,(σ S).env t=(sts i).env t:=by
    intro t ht;rw [hcani];simp only [σ];have q1:envU dst cd S st.env ops.size t=envU dst cd S st.env i t:=by
      refine envU_more (by omega) fun j h1 h2 hSj hd=>?_
      have hjo:ops[j]?=some ops[j]:=by simp [h2]
      have hne:i≠j:=fun e=>by subst e; rw [hSi] at hSj; cases hSj
      obtain ⟨_,_,h3⟩:=Oper.apart_spec (after j (by omega) hSj _ hjo).1
      rw [hdst hjo] at hd;exact h3 t hd ht
    rw [q1];refine envU_same fun j hj=>?_
    · cases hSj:S j with
      | true=>exact .inl rfl
      | false =>
        refine .inr fun hd=>?_
        have hj':j<ops.size:=by omega
        have hjo:ops[j]?=some ops[j]:=by simp [hj']
        obtain ⟨h3,_,_⟩:=Oper.apart_spec (before j hj hSj _ hjo).1;rw [hdst hjo] at hd;exact h3 t hd ht
   have hheap:Op.levelD cx o.op=0∨(σ S).h=(sts i).h:=by
    by_cases hl0:Op.levelD cx o.op=0
    · exact .inl hl0
    · refine .inr ?_
      rw [hcani];simp only [σ];have q1:hU lev hs S st.h ops.size=hU lev hs S st.h i:=by
        refine hU_more (by omega) fun j h1 h2 hSj hl2=>?_
        have hjo:ops[j]?=some ops[j]:=by simp [h2]
        have hne:i≠j:=fun e=>by subst e; rw [hSi] at hSj; cases hSj
        have h3:=(after j (by omega) hSj _ hjo).2
        rw [hlev hjo] at hl2;simp only [clash,hl2,Bool.or_eq_false_iff,Bool.and_eq_false_iff,beq_eq_false_iff_ne,bne_eq_false_iff_eq] at h3;rcases h3.2 with h4|h4
        · exact h4 rfl
        · exact hl0 h4
      rw [q1];refine hU_same fun j hj=>?_
      · cases hSj:S j with
        | true=>exact .inl rfl
        | false =>
          refine .inr fun hl2=>?_
          have hj':j<ops.size:=by omega
          have hjo:ops[j]?=some ops[j]:=by simp [hj']
          have h3:=(before j hj hSj _ hjo).2;rw [hlev hjo] at hl2;simp only [clash,hl2,Bool.or_eq_false_iff,Bool.and_eq_false_iff,beq_eq_false_iff_ne,bne_eq_false_iff_eq] at h3;rcases h3.1 with h4|h4
          · exact h4 rfl
          · exact hl0 h4
   obtain ⟨d,h1,h2,h3⟩:=oper_frame (stAt_step hrun ho);have h4:=h3 (σ S) (by rw [show stAt cx call ops st i=sts i from rfl,hcani]) henv hheap
   have h5:oper cx call ops o (σ S)=some (σ (ins S i)):=by
    rw [h4,hcd ho h1,hputE];have e1:envU dst cd (ins S i) st.env ops.size=putE (envU dst cd S st.env ops.size) (dst i) (cd i):=envU_ins hSi hi fun j hj hSj t hdi hdj=>by
      have hj':=hdom j hSj;have hjo:ops[j]?=some ops[j]:=by simp [hj']
      obtain ⟨_,h6,_⟩:=Oper.apart_spec (after j hj hSj _ hjo).1;rw [hdst ho] at hdi;rw [hdst hjo] at hdj;exact h6 t hdi hdj
    have e2:hU lev hs (ins S i) st.h ops.size=if lev i=2 then hs (i+1) else hU lev hs S st.h ops.size:=hU_ins hSi hi fun j hj hSj hl hl2=>by
      have hj':=hdom j hSj;have hjo:ops[j]?=some ops[j]:=by simp [hj']
      have h6:=(after j hj hSj _ hjo).2;rw [hlev ho] at hl;rw [hlev hjo] at hl2;simp [clash,hl,hl2] at h6
    simp only [σ,e1,e2,hdst ho,hlev ho];rfl
   exact oper_sound hP hc h h5 hK
 · simp only [σ]
   have e1:∀ k,k≤ops.size→envU dst cd S st.env k=envU dst cd S' st.env k:=fun k hk=>by
    funext t
    exact envU_same fun j hj=>.inl (hSS j (by omega))
   have e2:hU lev hs S st.h ops.size=hU lev hs S' st.h ops.size:=hU_same fun j hj=>.inl (hSS j hj)
   rw [e1 _ (Nat.le_refl _),e2]
 · rw [hfinσ] at h' hl
   rw [h0σ] at hl;exact hQ a' w' m' h' (hleft hl)
end
end Vai

namespace Vai
open Go
open Go.RowKit (Below)
variable [Gl]{dfs:List Deferred}
mutual
theorem T.beq_eq:∀ a b:T,T.beq a b=true→a=b
 | .int k a,b,h=>by cases b<;>simp_all [T.beq]
 | .bool a,b,h=>by cases b<;>simp_all [T.beq]
 | .str a,b,h=>by cases b<;>simp_all [T.beq]
 | .nilSlice,b,h=>by cases b<;>simp_all [T.beq]
 | .nilPtr,b,h=>by cases b<;>simp_all [T.beq]
 | .nilMap,b,h=>by cases b<;>simp_all [T.beq]
 | .nilFunc,b,h=>by cases b<;>simp_all [T.beq]
 | .nilIface,b,h=>by cases b<;>simp_all [T.beq]
 | .agg a,b,h=>by
  cases b with
  | agg b=>rw [T.beqs_eq a b (by simpa [T.beq] using h)]
  | _=>simp [T.beq] at h
 | .slice a,b,h=>by
  cases b with
  | slice b=>rw [T.beqs_eq a b (by simpa [T.beq] using h)]
  | _=>simp [T.beq] at h
 | .iface t a,b,h=>by
  cases b with
  | iface u b =>
   simp only [T.beq,Bool.and_eq_true,decide_eq_true_eq] at h;rw [h.1,T.beq_eq a b h.2]
  | _=>simp [T.beq] at h
theorem T.beqs_eq:∀ a b:List T,T.beq.beqs a b=true→a=b
 | [],b,h=>by cases b<;>simp_all [T.beq.beqs]
 | x::a,b,h=>by
  cases b with
  | nil=>simp [T.beq.beqs] at h
  | cons y b =>
   simp only [T.beq.beqs,Bool.and_eq_true] at h;rw [T.beq_eq x y h.1,T.beqs_eq a b h.2]
end
mutual
theorem T.beq_self:∀ a:T,T.beq a a=true
 | .int k a=>by simp [T.beq]
 | .bool a=>by simp [T.beq]
 | .str a=>by simp [T.beq]
 | .nilSlice=>rfl
 | .nilPtr=>rfl
 | .nilMap=>rfl
 | .nilFunc=>rfl
 | .nilIface=>rfl
 | .agg a=>by simpa [T.beq] using T.beqs_self a
 | .slice a=>by simpa [T.beq] using T.beqs_self a
 | .iface t a=>by simpa [T.beq] using T.beq_self a
theorem T.beqs_self:∀ a:List T,T.beq.beqs a a=true
 | []=>rfl
 | x::a=>by simp only [T.beq.beqs,T.beq_self x,T.beqs_self a,Bool.and_self]
end
mutual
theorem D.beq_eq:∀ a b:D,D.beq a b=true→a=b
 | .undef,b,h=>by cases b<;>simp_all [D.beq]
 | .t a,b,h=>by
  cases b with
  | t b=>rw [T.beq_eq a b (by simpa [D.beq] using h)]
  | _=>simp [D.beq] at h
 | .agg a,b,h=>by
  cases b with
  | agg b=>rw [D.beqs_eq a b (by simpa [D.beq] using h)]
  | _=>simp [D.beq] at h
 | .tup a,b,h=>by
  cases b with
  | tup b=>rw [D.beqs_eq a b (by simpa [D.beq] using h)]
  | _=>simp [D.beq] at h
 | .ptr _ _ _ _,b,h=>by cases b<;>simp_all [D.beq]
 | .eptr a f,b,h=>by
  cases b with
  | eptr b g =>
   simp only [D.beq,Bool.and_eq_true,decide_eq_true_eq] at h;rw [T.beq_eq a b h.1,h.2]
  | _=>simp [D.beq] at h
 | .row _ _ _ _,b,h=>by cases b<;>simp_all [D.beq]
 | .func f a c,b,h=>by
  cases b with
  | func g b e =>
   cases f<;>cases g<;>simp only [D.beq,Bool.and_eq_true,decide_eq_true_eq,Bool.false_eq_true] at h
   rw [h.1.1,D.beqs_eq a b h.1.2,D.beqs_eq c e h.2]
  | _=>cases f<;>simp [D.beq] at h
 | .map _,b,h=>by cases b<;>simp_all [D.beq]
 | .iter _,b,h=>by cases b<;>simp_all [D.beq]
 | .iface x a,b,h=>by
  cases b with
  | iface y b =>
   simp only [D.beq,Bool.and_eq_true,decide_eq_true_eq] at h;rw [h.1,D.beq_eq a b h.2]
  | _=>simp [D.beq] at h
theorem D.beqs_eq:∀ a b:List D,D.beq.beqs a b=true→a=b
 | [],b,h=>by cases b<;>simp_all [D.beq.beqs]
 | x::a,b,h=>by
  cases b with
  | nil=>simp [D.beq.beqs] at h
  | cons y b =>
   simp only [D.beq.beqs,Bool.and_eq_true] at h;rw [D.beq_eq x y h.1,D.beqs_eq a b h.2]
end
section
variable {cx:Cc}{call:ACall}{ops:Array Oper}
theorem opListH_run:∀ (l:List Oper) (st:St) {fin:St} {hs:List H},opListH cx call ops l st=some (fin,hs)→opList cx call ops l st=some fin
 | [],st,fin,hs,h=>by
  simp only [opListH,Option.some.injEq,Prod.mk.injEq] at h;simp only [opList,h.1]
 | o::os,st,fin,hs,h=>by
  simp only [opListH] at h;simp only [opList,thenA];split at h
  · cases h
  · rename_i st1 ho
    split at h
    · cases h
    · rename_i fin' hs' hr
      simp only [Option.some.injEq,Prod.mk.injEq] at h;rw [←h.1];rw [ho];exact opListH_run os st1 hr
theorem writer_at {j:Nat}{o:Oper}(ho:ops[j]?=some o):writer cx ops j=(Op.levelD cx o.op == 2):=by simp [writer,ho]
theorem verOf_mono : ∀ {k k' : Nat}, k ≤ k' → verOf cx ops k ≤ verOf cx ops k'
  | k, 0, h => by obtain rfl : k = 0 := by omega
                  exact Nat.le_refl _
  | k, k' + 1, h => by
    by_cases e : k = k' + 1
    · subst e; exact Nat.le_refl _
    · have := verOf_mono (k := k) (k' := k') (by omega)
      simp only [verOf];omega
theorem heaps_at {st fin:St}(h:opList cx call ops ops.toList st=some fin):∀ (n k:Nat) (hs:List H),k+n=ops.size→opListH cx call ops (ops.toList.drop k) (stAt cx call ops st k)=some (fin,hs) →
  ∀ k',k≤k'→k'≤ops.size→hs[verOf cx ops k'-verOf cx ops k]?=some (stAt cx call ops st k').h
 | 0,k,hs,hk,hl,k',h1,h2=>by
  obtain rfl:k'=k:=by omega
  have hd:ops.toList.drop k'=[]:=List.drop_of_length_le (by simp; omega)
  rw [hd] at hl;simp only [opListH,Option.some.injEq,Prod.mk.injEq] at hl;rw [←hl.2,Nat.sub_self];rfl
 | n+1,k,hs,hk,hl,k',h1,h2=>by
  have hlt:k<ops.size:=by omega
  have ho:ops[k]?=some ops[k]:=by simp [hlt]
  have hd:ops.toList.drop k=ops[k]::ops.toList.drop (k+1):=by
    rw [List.drop_eq_getElem_cons (by simpa using hlt)]
    simp
  have hstep:=stAt_step h ho;rw [hd] at hl;simp only [opListH,hstep] at hl;split at hl
  · cases hl
  · rename_i fin' hs' hr
    simp only [Option.some.injEq,Prod.mk.injEq] at hl;obtain ⟨rfl,rfl⟩:=hl;have ih:=heaps_at h n (k+1) hs' (by omega) hr
    have hw:=writer_at (cx:=cx) ho;by_cases hl2:Op.levelD cx ops[k].op=2
    · have hv:verOf cx ops (k+1)=verOf cx ops k+1:=by simp [verOf,hw,hl2]
      simp only [hl2,beq_self_eq_true,if_true];by_cases e:k'=k
      · subst e
        rw [Nat.sub_self];rfl
      · have h3:=verOf_mono (cx:=cx) (ops:=ops) (k:=k+1) (k':=k') (by omega)
        have h4:=ih k' (by omega) h2
        have e2:verOf cx ops k'-verOf cx ops k=(verOf cx ops k'-verOf cx ops (k+1))+1:=by omega
        rw [e2,List.getElem?_cons_succ];exact h4
    · have hv:verOf cx ops (k+1)=verOf cx ops k:=by simp [verOf,hw,hl2]
      have hb:(Op.levelD cx ops[k].op == 2)=false:=by simpa using hl2
      simp only [hb,Bool.false_eq_true,if_false];by_cases e:k'=k
      · subst e
        have h4:=ih (k'+1) (Nat.le_refl _) (by omega)
        rw [Nat.sub_self] at h4 ⊢;obtain ⟨d,_,h5,_⟩:=oper_frame hstep;rw [h4,h5 hl2]
      · have h4:=ih k' (by omega) h2
        rw [hv] at h4;exact h4
theorem lastW {lev:Nat→Nat}{hs:Nat→H}{S:Nat→Bool}{h0:H}(h00:hs 0=h0):∀ n,∃ k,k≤n∧hU lev hs S h0 n=hs k∧(k=0∨(S (k-1)=true∧lev (k-1)=2))∧∀ q,k≤q→q<n→S q=true→lev q≠2
 | 0=>⟨0,Nat.le_refl _,h00.symm,.inl rfl,fun q _ h=>absurd h (Nat.not_lt_zero _)⟩
 | n+1=>by
  by_cases h:S n=true∧lev n=2
  · exact ⟨n+1,Nat.le_refl _,by simp [hU,h],.inr (by simpa using h),fun q h1 h2=>by omega⟩
  · obtain ⟨k,h1,h2,h3,h4⟩:=lastW (lev:=lev) (hs:=hs) (S:=S) h00 n
    refine ⟨k,by omega,by simp only [hU,if_neg h,h2],h3,fun q h5 h6 hS hl=>?_⟩
    by_cases e:q=n
    · subst e; exact h ⟨hS,hl⟩
    · exact h4 q h5 (by omega) hS hl
theorem okHard_spec {prs:List (Nat × Nat)}(h:okHard cx ops prs=true):(∀ p∈hardPairs cx ops,p∈prs)∧∀ {i:Nat} {o:Oper},ops[i]?=some o →
   (∀ e∈o.after,Region.binds .any e=true→e.on<i)∧(∀ (j:Nat) (p:Oper),j<i→ops[j]?=some p→((masks ops.toList []).getD i 0).testBit j=true∨(p.apart ops o=true∧¬ (Op.levelD cx p.op=2∧Op.levelD cx o.op=2))) ∧
     (Op.levelD cx o.op=1→∀ (j:Nat) (p:Oper) (t:Tmp),i≤j→ops[j]?=some p→p.dst=some t→(i<j→o.dst≠some t)∧t∉o.looksAt ops):=by
 simp only [okHard,Bool.and_eq_true] at h;refine ⟨fun p hp=>?_,fun {i o} ho=>?_⟩
 · have:=List.all_eq_true.1 h.1 p hp
   simpa using this
 · have hi:i<ops.size:=(Array.getElem?_eq_some_iff.1 ho).1
   have h2:=h.2;simp only [List.all_eq_true,List.mem_range] at h2;have h1:=h2 i hi;simp only [ho,Bool.and_eq_true,List.all_eq_true,List.mem_range,Bool.or_eq_true] at h1;obtain ⟨⟨⟨_,h3⟩,h4⟩,h5⟩:=h1;refine ⟨fun e he hb=>?_,fun j p hj hp=>?_,fun hl j p t hij hp ht=>?_⟩
   · have:=h3 e (by simpa using he)
     simpa [hb] using this
   · have:=h4 j hj
     simp only [hp,Bool.or_eq_true,Bool.and_eq_true,Bool.not_eq_true',Bool.and_eq_false_iff,beq_eq_false_iff_ne] at this;rcases this with h6|h6
     · exact .inl h6
     · exact .inr ⟨h6.1,fun hh=>by rcases h6.2 with h7|h7; exact h7 hh.1; exact h7 hh.2⟩
   · have hj:j<ops.size:=(Array.getElem?_eq_some_iff.1 hp).1
     rcases h5 with h5|h5
     · simp [hl] at h5
     · have:=h5 j hj
       simp only [hp,ht,Bool.or_eq_true,Bool.and_eq_true,decide_eq_true_eq,bne_iff_ne,Bool.not_eq_true',List.contains_eq_mem] at this;rcases this with h6|⟨h6,h7⟩
       · omega
       · refine ⟨fun hlt=>?_,by simpa using h7⟩
         rcases h6 with h6|h6
         · omega
         · exact h6
theorem steady_spec {fin:St}{hs:List H}:∀ {prs:List (Nat × Nat)},steady cx call ops fin hs prs=true→∀ i v,(i,v)∈prs→∃ o h,ops[i]?=some o∧hs[v]?=some h∧sameOut o.dst fin (oper cx call ops o { fin with h:=h })=true
 | [],_,i,v,hm=>by cases hm
 | (i',v')::rest,h,i,v,hm=>by
  simp only [steady,Bool.and_eq_true] at h;rcases List.mem_cons.1 hm with e|hm
  · cases e
    split at h
    · rename_i o hh ho hv
      exact ⟨o,hh,ho,hv,h.1⟩
    · simp at h
  · exact steady_spec h.2 i v hm
end
section
variable {P:Program}
theorem region_hard {cx:Cc}{call:ACall}(hP:cx.P=P)(hmix:P.follows .mixedOrders=true)(hc:CallOK P call){ops:Array Oper}{id:Nat}{m:M}{w:World}{st fin:St}{a:Act}{Q:Exit→Act→World→Prop}
   {prs:List (Nat × Nat)} {hl0:List H} (hok:okHard cx ops prs=true) (hsr:SR dfs m st a w) (hrunH:opListH cx call ops ops.toList st=some (fin,hl0)) (hst:steady cx call ops fin hl0 prs=true) (hQ:∀ a' w' m',SR dfs m' fin a' w'→Left m w st m' w' fin→Q .normal a' w'):(Code.region id ops true).wp P Q a w:=by
 have hrun:=opListH_run _ _ hrunH;have hspec:=okHard_spec hok
 let sts:=stAt cx call ops st
 let dst:Nat→Option Tmp:=fun i=>(ops[i]?).bind (·.dst)
 let cd:Nat→D:=fun i=>match dst i with|some t=>(sts (i+1)).env t|none=>.undef
 let lev:Nat→Nat:=fun i=>((ops[i]?).map fun o=>Op.levelD cx o.op).getD 0
 let hs:Nat→H:=fun i=>(sts i).h
 let σ:(Nat→Bool)→St:=fun S=>⟨st.n,envU dst cd S st.env ops.size,hU lev hs S st.h ops.size⟩
 have hdst:∀ {i:Nat} {o:Oper},ops[i]?=some o→dst i=o.dst:=fun {i o} ho=>by simp [dst,ho]
 have hlev:∀ {i:Nat} {o:Oper},ops[i]?=some o→lev i=Op.levelD cx o.op:=fun {i o} ho=>by simp [lev,ho]
 have hcd:∀ {i:Nat} {o:Oper} {d:D},ops[i]?=some o→sts (i+1)=St.put { sts i with h:=(sts (i+1)).h } o.dst d→∀ s:St,s.put o.dst d=s.put o.dst (cd i):=by
   intro i o d ho he s
   cases hd:o.dst with
   | none=>rfl
   | some t =>
    have h1:cd i=(sts (i+1)).env t:=by simp only [cd,hdst ho,hd]
    have h2:cd i=d:=by
      rw [h1,he,hd];simp only [St.put];exact upd_same _ _ _
    rw [h2]
 have hputE:∀ (s:St) (dt:Option Tmp) (d:D),s.put dt d=⟨s.n,putE s.env dt d,s.h⟩:=fun s dt d=>by cases dt<;>rfl
 -- the states ahead of each operation
 have hcan:∀ k,k≤ops.size→sts k=⟨st.n,envU dst cd (fun _=>true) st.env k,hU lev hs (fun _=>true) st.h k⟩:=by
   intro k
   induction k with
   | zero=>intro _; exact stAt_zero
   | succ k ih =>
    intro hk;have hk':k<ops.size:=by omega
    have ho:ops[k]?=some ops[k]:=by simp [hk']
    obtain ⟨d,h1,h2,_⟩:=oper_frame (stAt_step hrun ho);have h3:=hcd ho h1;have ihk:=ih (by omega)
    have h4:sts (k+1)=St.put { sts k with h:=(sts (k+1)).h } ops[k].dst (cd k):=by
      rw [←h3]; exact h1
    have h5:(sts (k+1)).h=hU lev hs (fun _=>true) st.h (k+1):=by
      simp only [hU,true_and];split
      · rfl
      · rename_i hl
        rw [hlev ho] at hl;have:=h2 hl;have h6:(sts (k+1)).h=(sts k).h:=this;rw [h6,ihk]
    rw [h4,hputE,h5,ihk];simp only [envU,if_true,hdst ho,putE]
 have hend:sts ops.size=fin:=stAt_end hrun;have hfinσ:σ (fun _=>true)=fin:=by rw [←hend,hcan _ (Nat.le_refl _)]
 have h0σ:σ (fun _=>false)=st:=by
   have h1:∀ k,envU dst cd (fun _=>false) st.env k=st.env:=fun k=>by induction k with
    | zero=>rfl
    | succ k ih=>simp only [envU,ih]; rfl
   have h2:∀ k,hU lev hs (fun _=>false) st.h k=st.h:=fun k=>by induction k with
    | zero=>rfl
    | succ k ih=>simp only [hU,ih]; simp
   simp only [σ,h1,h2]
 refine wp_region_any hmix ?_;have hw:SR dfs m st a { w with drawn:=w.drawn+1 }:=by
   have hb:Below w.heap.size w { w with drawn:=w.drawn+1 }:=⟨rfl,rfl,rfl,Nat.le_refl _,fun _ _=>rfl⟩
   exact ⟨hsr.hr.below_ hb,hsr.size,fun i hi=>(hsr.env i hi).bel hb,hsr.refs,hsr.defers⟩
 have hleft:∀ {m':M} {w':World},Left m { w with drawn:=w.drawn+1 } st m' w' fin→Left m w st m' w' fin:=fun h=>⟨⟨h.ext.os,h.ext.tape,h.ext.output,h.ext.size,h.ext.keep,h.ext.away,h.ext.refs,h.ext.newb⟩,h.next,h.marks,h.n⟩
 have hdomS:∀ i,(fun _:Nat=>false) i=(Array.replicate ops.size false).getD i false:=fun i=>by
   simp only [Array.getD_eq_getD_getElem?,Array.getElem?_replicate];split<;>rfl
 have hcnt:∀ n,cnt (fun _=>false) n=n:=fun n=>by induction n with
   | zero=>rfl
   | succ n ih=>simp [cnt,ih]
 refine any_sound (P:=P) σ (fun i o ho=>(hspec.2 ho).1) (fun S i o hcl hdom hSi ho hready m a w h K hK=>?_) (fun S S' hSS=>?_) ops.size (fun _=>false) _ m a _ (by simp) hdomS (fun _ _ h=>by cases h) (hcnt _) (by rw [h0σ]; exact hw) fun a' w' m' h' hl=>?_
 · have hi:i<ops.size:=(Array.getElem?_eq_some_iff.1 ho).1
   have hpath:∀ j,((masks ops.toList []).getD i 0).testBit j=true→S j=true:=fun j hj=>masks_spec hcl ops.toList [] (fun k=>by simp) (fun i o hi=>by simp at hi) i o (by simpa using hi) ho hready j hj
   have hpath':∀ j p,S j=true→ops[j]?=some p→((masks ops.toList []).getD j 0).testBit i=true→False:=fun j p hSj hp hb=>by
    have:=masks_spec hcl ops.toList [] (fun k=>by simp) (fun i o hi=>by simp at hi) j p (by simpa using hdom j hSj) hp (hcl j p hSj hp) i hb
    rw [hSi] at this;cases this
   -- against the others
   have before:∀ j,j<i→S j=false→∀ p,ops[j]?=some p→p.apart ops o=true∧¬ (Op.levelD cx p.op=2∧Op.levelD cx o.op=2):=fun j hj hSj p hp=>by
    rcases (hspec.2 ho).2.1 j p hj hp with h1|h1
    · rw [hpath j h1] at hSj; cases hSj
    · exact h1
   have after:∀ j,i<j→S j=true→∀ p,ops[j]?=some p→o.apart ops p=true∧¬ (Op.levelD cx o.op=2∧Op.levelD cx p.op=2):=fun j hj hSj p hp=>by
    rcases (hspec.2 hp).2.1 i o hj ho with h1|h1
    · exact (hpath' j p hSj hp h1).elim
    · exact h1
   have hcani:=hcan i (by omega)
   have henv:∀ t∈o.looksAt ops,(σ S).env t=(sts i).env t:=by
    intro t ht;rw [hcani];simp only [σ];have q1:envU dst cd S st.env ops.size t=envU dst cd S st.env i t:=by
      refine envU_more (by omega) fun j h1 h2 hSj hd=>?_
      have hjo:ops[j]?=some ops[j]:=by simp [h2]
      have hne:i≠j:=fun e=>by subst e; rw [hSi] at hSj; cases hSj
      obtain ⟨_,_,h3⟩:=Oper.apart_spec (after j (by omega) hSj _ hjo).1
      rw [hdst hjo] at hd;exact h3 t hd ht
    rw [q1];refine envU_same fun j hj=>?_
    · cases hSj:S j with
      | true=>exact .inl rfl
      | false =>
        refine .inr fun hd=>?_
        have hj':j<ops.size:=by omega
        have hjo:ops[j]?=some ops[j]:=by simp [hj']
        obtain ⟨h3,_,_⟩:=Oper.apart_spec (before j hj hSj _ hjo).1;rw [hdst hjo] at hd;exact h3 t hd ht
   obtain ⟨d,h1,h2,h3⟩:=oper_frame (stAt_step hrun ho);have hcdo:=hcd ho h1;have h4:∃ d,(∀ s:St,s.put o.dst d=s.put o.dst (cd i))∧oper cx call ops o (σ S)=some (St.put { σ S with h:=if Op.levelD cx o.op=2 then (sts (i+1)).h else (σ S).h } o.dst d):=by
    by_cases hl1:Op.levelD cx o.op=1
    · -- a reading: it answers the same at each state that it may find
      obtain ⟨k,k1,k2,k3,k4⟩:=lastW (lev:=lev) (hs:=hs) (S:=S) (h0:=st.h) (by simp only [hs,sts,stAt_zero]) ops.size
      have hheapk:(σ S).h=(sts k).h:=k2;have hmeets:meets cx ops (masks ops.toList []) i k=true:=by
        simp only [meets,Bool.and_eq_true,Bool.or_eq_true,beq_iff_eq,Bool.not_eq_true',List.all_eq_true,List.mem_range,Bool.and_eq_false_iff,decide_eq_false_iff_not];refine ⟨?_,fun q hq=>?_⟩
        · rcases k3 with rfl|⟨hSk,hlk⟩
          · exact .inl rfl
          · refine .inr ⟨?_,?_⟩
            · have hk':=hdom _ hSk
              have hko:ops[k-1]?=some ops[k-1]:=by simp [hk']
              rw [writer_at hko,←hlev hko,hlk];rfl
            · cases hb:((masks ops.toList []).getD (k-1) 0).testBit i with
              | false=>rfl
              | true =>
               have hk':=hdom _ hSk;have hko:ops[k-1]?=some ops[k-1]:=by simp [hk']
               exact (hpath' (k-1) _ hSk hko hb).elim
        · by_cases hkq:k≤q
          · by_cases hb:((masks ops.toList []).getD i 0).testBit q=true
            · have hqo:ops[q]?=some ops[q]:=by simp [hq]
              have hn:=k4 q hkq hq (hpath q hb);rw [hlev hqo] at hn;refine .inl (.inr ?_);rw [writer_at hqo];simpa using hn
            · exact .inr (by simpa using hb)
          · exact .inl (.inl hkq)
      have hheaps:=heaps_at hrun ops.size 0 hl0 (by simp) (by simpa [stAt_zero] using hrunH)
      have hfin:∀ t∈o.looksAt ops,fin.env t=(σ S).env t:=by
        intro t ht;rw [henv t ht,←hend,hcan _ (Nat.le_refl _),hcani];refine envU_more (by omega) fun j hj1 hj2 _ hd=>?_
        have hjo:ops[j]?=some ops[j]:=by simp [hj2]
        rw [hdst hjo] at hd;exact ((hspec.2 ho).2.2 hl1 j _ t hj1 hjo hd).2 ht
      by_cases hv:verOf cx ops k=verOf cx ops i
      · have q1:=hheaps k (Nat.zero_le _) k1
        have q2:=hheaps i (Nat.zero_le _) (by omega)
        rw [hv] at q1;rw [q1] at q2;have hheap:(σ S).h=(sts i).h:=hheapk.trans (Option.some.inj q2);exact ⟨d,hcdo,h3 (σ S) (by rw [show stAt cx call ops st i=sts i from rfl,hcani]) henv (.inr hheap)⟩
      · have hpair:(i,verOf cx ops k)∈hardPairs cx ops:=by
          simp only [hardPairs,List.mem_flatMap,List.mem_range];refine ⟨i,hi,?_⟩;simp only [ho,hl1,beq_self_eq_true,if_true,List.mem_filterMap,List.mem_range];refine ⟨k,by omega,?_⟩
          have:(verOf cx ops k != verOf cx ops i)=true:=by simpa using hv
          simp [hmeets,this]
        obtain ⟨o2,hh,ho2,hhv,hsame⟩:=steady_spec hst _ _ (hspec.1 _ hpair);rw [ho] at ho2;cases ho2;have q1:=hheaps k (Nat.zero_le _) k1;rw [show verOf cx ops k-verOf cx ops 0=verOf cx ops k from rfl] at q1
        rw [hhv] at q1;have hhk:hh=(sts k).h:=Option.some.inj q1;unfold sameOut at hsame;split at hsame
        · rename_i st1 hop
          obtain ⟨d2,g1,g2,g3⟩:=oper_frame hop;have g4:=g3 (σ S) (by rw [←hfinσ]) (fun t ht=>(hfin t ht).symm) (.inr (by rw [hheapk,hhk]))
          refine ⟨d2,fun s=>?_,?_⟩
          · cases hd:o.dst with
            | none=>rfl
            | some t =>
              rw [hd] at hsame;have e1:=D.beq_eq _ _ hsame;have e2:st1.env t=d2:=by rw [g1,hd]; simp only [St.put]; exact upd_same _ _ _
              have e3:fin.env t=cd i:=by
               have hc1:cd i=(sts (i+1)).env t:=by simp only [cd,hdst ho,hd]
               rw [hc1,←hend,hcan _ (Nat.le_refl _),hcan (i+1) (by omega)]
               refine envU_more (by omega) fun j hj1 hj2 _ hdj=>?_
               have hjo:ops[j]?=some ops[j]:=by simp [hj2]
               rw [hdst hjo] at hdj;exact ((hspec.2 ho).2.2 hl1 j _ t (by omega) hjo hdj).1 (by omega) hd
              rw [←e2,e1,e3]
          · have hn2:¬ Op.levelD cx o.op=2:=by omega
            rw [g4];simp only [hn2,if_false]
        · cases hsame
    · have hheap:Op.levelD cx o.op=0∨(σ S).h=(sts i).h:=by
        by_cases hl0':Op.levelD cx o.op=0
        · exact .inl hl0'
        · have hl2o:Op.levelD cx o.op=2:=by
            have:Op.levelD cx o.op≤2:=by
              unfold Op.levelD
              repeat' split
              all_goals omega
            omega
          refine .inr ?_;rw [hcani];simp only [σ];have q1:hU lev hs S st.h ops.size=hU lev hs S st.h i:=by
            refine hU_more (by omega) fun j h1 h2 hSj hl2=>?_
            have hjo:ops[j]?=some ops[j]:=by simp [h2]
            have hne:i≠j:=fun e=>by subst e; rw [hSi] at hSj; cases hSj
            rw [hlev hjo] at hl2;exact (after j (by omega) hSj _ hjo).2 ⟨hl2o,hl2⟩
          rw [q1];refine hU_same fun j hj=>?_
          · cases hSj:S j with
            | true=>exact .inl rfl
            | false =>
              refine .inr fun hl2=>?_
              have hj':j<ops.size:=by omega
              have hjo:ops[j]?=some ops[j]:=by simp [hj']
              rw [hlev hjo] at hl2;exact (before j hj hSj _ hjo).2 ⟨hl2,hl2o⟩
      exact ⟨d,hcdo,h3 (σ S) (by rw [show stAt cx call ops st i=sts i from rfl,hcani]) henv hheap⟩
   obtain ⟨d,hcdd,h4⟩:=h4;have h5:oper cx call ops o (σ S)=some (σ (ins S i)):=by
    rw [h4,hcdd,hputE];have e1:envU dst cd (ins S i) st.env ops.size=putE (envU dst cd S st.env ops.size) (dst i) (cd i):=envU_ins hSi hi fun j hj hSj t hdi hdj=>by
      have hj':=hdom j hSj;have hjo:ops[j]?=some ops[j]:=by simp [hj']
      obtain ⟨_,h6,_⟩:=Oper.apart_spec (after j hj hSj _ hjo).1;rw [hdst ho] at hdi;rw [hdst hjo] at hdj;exact h6 t hdi hdj
    have e2:hU lev hs (ins S i) st.h ops.size=if lev i=2 then hs (i+1) else hU lev hs S st.h ops.size:=hU_ins hSi hi fun j hj hSj hl hl2=>by
      have hj':=hdom j hSj;have hjo:ops[j]?=some ops[j]:=by simp [hj']
      have h6:=(after j hj hSj _ hjo).2;rw [hlev ho] at hl;rw [hlev hjo] at hl2;exact h6 ⟨hl,hl2⟩
    simp only [σ,e1,e2,hdst ho,hlev ho];rfl
   exact oper_sound hP hc h h5 hK
 · simp only [σ]
   have e1:∀ k,k≤ops.size→envU dst cd S st.env k=envU dst cd S' st.env k:=fun k hk=>by
    funext t
    exact envU_same fun j hj=>.inl (hSS j (by omega))
   have e2:hU lev hs S st.h ops.size=hU lev hs S' st.h ops.size:=hU_same fun j hj=>.inl (hSS j hj)
   rw [e1 _ (Nat.le_refl _),e2]
 · rw [hfinσ] at h' hl
   rw [h0σ] at hl;exact hQ a' w' m' h' (hleft hl)
end
end Vai

namespace Vai
open Go
open Go.RowKit (Below)
variable [Gl]
def M.adopt (m:M)(id:Nat)(x:MI):M:=⟨Vai.upd m.f id (some x),fun k=>m.F k∧k≠x.blk⟩
theorem M.adopt_same (m:M)(id:Nat)(x:MI):(m.adopt id x) id=some x:=by simp [M.adopt,Vai.upd]
theorem M.adopt_ne (m:M){id i:Nat}(x:MI)(h:i≠id):(m.adopt id x) i=m i:=by simp [M.adopt,Vai.upd,h]
theorem M.adopt_blocks {m:M}{id:Nat}{x:MI}(hn:m id=none)(hF:m.F x.blk)(k:Nat):(m.adopt id x).blocks k↔m.blocks k:=by
 constructor
 · rintro (⟨i,y,hy,rfl⟩|hk)
   · by_cases e:i=id
     · subst e
       rw [M.adopt_same] at hy;cases hy;exact .inr hF
     · rw [M.adopt_ne _ _ e] at hy
       exact .inl ⟨i,y,hy,rfl⟩
   · exact .inr hk.1
 · rintro (⟨i,y,hy,rfl⟩|hk)
   · have e:i≠id:=fun e=>by subst e; rw [hn] at hy; cases hy
     exact .inl ⟨i,y,by rw [M.adopt_ne _ _ e]; exact hy,rfl⟩
   · by_cases e:k=x.blk
     · subst e
       exact .inl ⟨id,x,M.adopt_same _ _ _,rfl⟩
     · exact .inr ⟨hk,e⟩
theorem TR.adopt {m:M}{w:World}{id:Nat}{x:MI}(hn:m id=none)(hF:m.F x.blk){t:T}{v:Value}(h:TR w m.blocks t v):TR w (m.adopt id x).blocks t v :=
 h.mono (fun _ _ _=>rfl) fun k _ hk=>(M.adopt_blocks hn hF k).1 hk
theorem VR.adopt {m:M}{w:World}{id:Nat}{x:MI}(hn:m id=none)(hF:m.F x.blk){d:D}{v:Value}(hd:VR m w d v)(hb:d.refsB id=true):VR (m.adopt id x) w d v:=by
 have old:∀ {i:Nat},i<id→(m.adopt id x) i=m i:=fun h=>M.adopt_ne _ _ (by omega)
 induction hd with
 | undef v=>exact .undef v
 | t hx=>exact .t (hx.adopt hn hF)
 | agg hl h1 _ ih=>exact .agg hl h1 fun i d v hd hv=>ih i d v hd hv (refsL_get (by simpa [D.refsB] using hb) hd)
 | tup hl _ ih=>exact .tup hl fun i d v hd hv=>ih i d v hd hv (refsL_get (by simpa [D.refsB] using hb) hd)
 | ptr h1 hp =>
  refine .ptr h1 fun x' hx'=>?_
  rw [old (by simpa [D.refsB] using hb)] at hx'
  exact hp x' hx'
 | eptr hS hc hx hne =>
  exact .eptr (fun hb'=>hS ((M.adopt_blocks hn hF _).1 hb')) hc (fun j c hj=>(hx j c hj).adopt hn hF) hne
 | row h1 hp =>
  refine .row h1 fun x' hx'=>?_
  rw [old (by simpa [D.refsB] using hb)] at hx'
  exact hp x' hx'
 | func hl hl' _ _ ih ih' =>
  simp only [D.refsB,Bool.and_eq_true] at hb;exact .func hl hl' (fun i d v hd hv=>ih i d v hd hv (refsL_get hb.1 hd)) (fun i d v hd hv=>ih' i d v hd hv (refsL_get hb.2 hd))
 | map h1 hp =>
  refine .map h1 fun x' hx' hs=>?_
  rw [old (by simpa [D.refsB] using hb)] at hx'
  exact hp x' hx' hs
 | iter h1 hp =>
  refine .iter h1 fun x' hx' hs=>?_
  rw [old (by simpa [D.refsB] using hb)] at hx'
  exact hp x' hx' hs
 | iface _ ih=>exact .iface (ih (by simpa [D.refsB] using hb))
theorem OR.adopt {m:M}{w:World}{id:Nat}{x y:MI}{o:AObj}(hn:m id=none)(hF:m.F x.blk)(h:OR m w y o)(hr:o.refsB id=true):OR (m.adopt id x) w y o:=by
 cases o with
 | row bt s es =>
  obtain ⟨h1,h2,h3,h4,h5,cur,h6,h7,h8,h9⟩:=h;refine ⟨h1,h2,h3,h4,h5,cur,h6,h7,h8,fun i j d c hd hc=>?_⟩
  obtain ⟨u,hu,hv,ho⟩:=h9 i j d c hd hc;exact ⟨u,hu,hv.adopt hn hF (cells_refs (all_get hr hd) hc),ho⟩
 | map ents clock =>
  obtain ⟨h1,arr,h2,h3,h4⟩:=h;refine ⟨h1,arr,h2,h3,fun i k d b hi=>?_⟩
  obtain ⟨e,he1,hk,hv,hbn⟩:=h4 i k d b hi;exact ⟨e,he1,hk,hv.adopt hn hF (all_get (p:=fun e:T × D × Nat=>e.2.1.refsB id) (l:=ents) hr hi),hbn⟩
 | iter s pos=>exact h
theorem HR.adopt {m:M}{w:World}{h:H}{x:MI}{o:AObj}(hr:HR m w h)(hF:m.F x.blk)(ho:OR (m.adopt h.next x) w x o)(hb:o.refsB h.next=true)(hg:¬ Gl.blk x.blk):HR (m.adopt h.next x) w (h.push o):=by
 have hn:m h.next=none:=by
   cases hq:m h.next with
   | none=>rfl
   | some y=>exact absurd (hr.dom _ y hq).2 (Nat.lt_irrefl _)
 have hfar:∀ i y,m i=some y→y.blk≠x.blk:=fun i y hy e=>hr.far i y hy (e ▸ hF)
 refine ⟨fun i p hp=>?_,fun i y hy=>?_,fun i i' y y' hy hy' hbb=>?_,fun i y hy=>?_,fun k hk=>hr.old k hk.1,fun i p hp=>?_,fun mk hmk=>⟨Nat.le_succ_of_le (hr.marks mk hmk).1,fun i p hp hlt=>?_⟩,⟨hr.glob.1,fun k hk=>⟨(hr.glob.2 k hk).1,fun hb'=>(hr.glob.2 k hk).2 ((M.adopt_blocks hn hF k).1 hb')⟩⟩⟩
 all_goals by_cases e:i=h.next
 · subst e
   simp only [H.push,upd_same,Option.some.injEq] at hp;subst hp;exact ⟨x,M.adopt_same _ _ _,ho⟩
 · simp only [H.push,upd_ne _ _ e] at hp
   obtain ⟨y,hy,hor⟩:=hr.obj i p hp;exact ⟨y,by rw [M.adopt_ne _ _ e]; exact hy,hor.adopt hn hF (hr.below i p hp)⟩
 · subst e
   exact ⟨by simp [H.push,upd_same],Nat.lt_succ_self _⟩
 · rw [M.adopt_ne _ _ e] at hy
   obtain ⟨h1,h2⟩:=hr.dom i y hy;exact ⟨by simpa [H.push,upd_ne _ _ e] using h1,Nat.lt_succ_of_lt h2⟩
 · subst e
   rw [M.adopt_same] at hy;cases hy;by_cases e':i'=h.next
   · exact e'.symm
   · rw [M.adopt_ne _ _ e'] at hy'
     exact absurd hbb.symm (hfar i' y' hy')
 · rw [M.adopt_ne _ _ e] at hy
   by_cases e':i'=h.next
   · subst e'
     rw [M.adopt_same] at hy';cases hy';exact absurd hbb (hfar i y hy)
   · rw [M.adopt_ne _ _ e'] at hy'
     exact hr.inj i i' y y' hy hy' hbb
 · subst e
   rw [M.adopt_same] at hy;cases hy;exact fun hk=>hk.2 rfl
 · rw [M.adopt_ne _ _ e] at hy
   exact fun hk=>hr.far i y hy hk.1
 · subst e
   simp only [H.push,upd_same,Option.some.injEq] at hp;subst hp;exact AObj.refs_mono (Nat.le_succ _) hb
 · simp only [H.push,upd_ne _ _ e] at hp
   exact AObj.refs_mono (Nat.le_succ _) (hr.below i p hp)
 · subst e
   exact absurd hlt (Nat.not_lt.2 (hr.marks mk hmk).1)
 · simp only [H.push,upd_ne _ _ e] at hp
   exact (hr.marks mk hmk).2 i p hp hlt
section
variable {P:Program}
theorem any_inv {ops:Array Oper}{Q:Exit→Act→World→Prop}(J:(Nat→Bool)→Act→World→Prop)(hback:∀ i o,ops[i]?=some o→∀ e∈o.after,Region.binds .any e=true→e.on<i)
  (hstep:∀ (S:Nat→Bool) (i:Nat) (o:Oper),Closed ops S→(∀ j,S j=true→j<ops.size)→S i=false→ops[i]?=some o→(∀ e∈o.after,Region.binds .any e=true→S e.on=true) →
    ∀ (a:Act) (w:World),J S a w→∀ (K:Act→World→Prop),(∀ a' w',J (ins S i) a' w'→K a' w') →
      if Region.wanted o (yielded ops a.tmps) then o.wp P a w K Q else K (a.put o.dst undef) w)
  (hfin:∀ (S S':Nat→Bool) (a:Act) (w:World),(∀ i,i<ops.size→S i=S' i)→J S a w→J S' a w) :
  ∀ (fuel:Nat) (S:Nat→Bool) (listed:Array Bool) (a:Act) (w:World),listed.size=ops.size→(∀ i,S i=listed.getD i false)→Closed ops S→cnt S ops.size=fuel→J S a w →
    (∀ a' w',J (fun _=>true) a' w'→Q .normal a' w')→wpAny P .any ops Q fuel listed a w:=by
 have full:∀ {S:Nat→Bool} {listed:Array Bool},listed.size=ops.size→(∀ i,S i=listed.getD i false)→Region.ready .any ops listed=[]→∀ i,i<ops.size→S i=true:=by
  intro S listed hsz hS hr i
  induction i using Nat.strongRecOn with
  | _ i ih =>
    intro hi
    cases hSi:S i with
    | true=>rfl
    | false =>
      exfalso;have hmem:i∈Region.ready .any ops listed:=by
        refine mem_ready.2 ⟨?_,ops[i],by simp [hi],fun e he hb=>?_⟩
        · have h1:=hS i
          rw [hSi] at h1;have:i<listed.size:=by omega
          simp [this] at h1 ⊢;exact h1
        · rw [←hS]
          have hlt:=hback i ops[i] (by simp [hi]) e he hb
          exact ih _ hlt (by omega)
      rw [hr] at hmem;cases hmem
 intro fuel
 induction fuel with
 | zero =>
  intro S listed a w hsz hS hcl hcnt hsr hQ;have hall:=cnt_zero hcnt;have hr:Region.ready .any ops listed=[]:=by
    cases hrr:Region.ready .any ops listed with
    | nil=>rfl
    | cons i rest =>
      exfalso;have hi:i∈Region.ready .any ops listed:=by rw [hrr]; exact List.mem_cons_self
      obtain ⟨h1,o,ho,_⟩:=mem_ready.1 hi;have hlt:i<ops.size:=(Array.getElem?_eq_some_iff.1 ho).1;have h2:=hall i hlt;rw [hS] at h2;have:i<listed.size:=by omega
      simp [this] at h1 h2;rw [h1] at h2;cases h2
  refine ⟨hr,?_⟩;exact hQ a w (hfin S _ a w (fun i hi=>hall i hi) hsr)
 | succ fuel ih =>
  intro S listed a w hsz hS hcl hcnt hsr hQ;refine ⟨fun hr=>?_,fun i hi=>?_⟩
  · exact hQ a w (hfin S _ a w (fun i hi=>full hsz hS hr i hi) hsr)
  · obtain ⟨h1,o,ho,hall⟩:=mem_ready.1 hi
    have hlt:i<ops.size:=(Array.getElem?_eq_some_iff.1 ho).1;have hlt':i<listed.size:=by omega
    have hSi:S i=false:=by
      rw [hS];simp [hlt'] at h1 ⊢;exact h1
    have hready:∀ e∈o.after,Region.binds .any e=true→S e.on=true:=fun e he hb=>by rw [hS]; exact hall e he hb
    have hdom:∀ j,S j=true→j<ops.size:=fun j hj=>by
      rw [hS] at hj;rcases Nat.lt_or_ge j listed.size with h'|h'
      · omega
      · simp [Array.getElem?_eq_none h'] at hj
    have hS':∀ j,ins S i j=(listed.setIfInBounds i true).getD j false:=fun j=>by
      simp only [ins];by_cases e:j=i
      · subst e; simp [hlt']
      · rw [if_neg e,getD_set_ne false (fun h=>e h.symm)]; exact hS j
    have hcl':Closed ops (ins S i):=fun k ok hk hok e he hb=>by
      have hmono:S e.on=true→ins S i e.on=true:=fun h=>by simp [ins,h]
      by_cases e':k=i
      · subst e'
        rw [ho] at hok;cases hok;exact hmono (hready e he hb)
      · simp only [ins,if_neg e'] at hk
        exact hmono (hcl k ok hk hok e he hb)
    have:=hstep S i o hcl hdom hSi ho hready a w hsr (wpAny P .any ops Q fuel (listed.setIfInBounds i true)) fun a' w' h'=>by
      exact ih (ins S i) _ a' w' (by simp [hsz]) hS' hcl' (by have:=cnt_ins hSi hlt; omega) h' hQ
    unfold wpOp;simp only [ho];split
    · rename_i hw; rw [if_pos hw] at this; exact .inl this
    · rename_i hw; rw [if_neg hw] at this; exact this
end
end Vai

namespace Vai
open Go
open Go.RowKit (Below)
variable [Gl]{dfs:List Deferred}
section
variable {cx:Cc}{call:ACall}{ops:Array Oper}
theorem okLate_spec {prs:List (Nat × Nat)}{p:Nat}(h:okLate cx ops prs p=true):(∀ q∈hardPairs cx ops,q∈prs)∧∀ {i:Nat} {o:Oper},ops[i]?=some o →
   (∀ e∈o.after,Region.binds .any e=true→e.on<i)∧(∀ (j:Nat) (q:Oper),j<i→ops[j]?=some q→((masks ops.toList []).getD i 0).testBit j=true∨(q.apart ops o=true∧(¬ (Op.levelD cx q.op=2∧Op.levelD cx o.op=2)∨i=p))) ∧
     (Op.levelD cx o.op=1→∀ (j:Nat) (q:Oper) (t:Tmp),i≤j→ops[j]?=some q→q.dst=some t→(i<j→o.dst≠some t)∧t∉o.looksAt ops):=by
 simp only [okLate,Bool.and_eq_true] at h;refine ⟨fun p hp=>?_,fun {i o} ho=>?_⟩
 · have:=List.all_eq_true.1 h.1.1 p hp
   simpa using this
 · have hi:i<ops.size:=(Array.getElem?_eq_some_iff.1 ho).1
   have h2:=h.2;simp only [List.all_eq_true,List.mem_range] at h2;have h1:=h2 i hi;simp only [ho,Bool.and_eq_true,List.all_eq_true,List.mem_range] at h1;obtain ⟨⟨⟨⟨_,h3⟩,h4⟩,h5⟩,_⟩:=h1;refine ⟨fun e he hb=>?_,fun j p hj hp=>?_,fun hl j p t hij hp ht=>?_⟩
   · have:=h3 e (by simpa using he)
     simpa [hb] using this
   · have:=h4 j hj
     simp only [hp,Bool.or_eq_true,Bool.and_eq_true,Bool.not_eq_true',Bool.and_eq_false_iff,beq_eq_false_iff_ne,decide_eq_true_eq] at this;rcases this with h6|⟨h6,h7⟩
     · exact .inl h6
     · refine .inr ⟨h6,?_⟩
       rcases h7 with h7|h7
       · exact .inl fun hh=>by rcases h7 with h8|h8; exact h8 hh.1; exact h8 hh.2
       · exact .inr h7
   · have hj:j<ops.size:=(Array.getElem?_eq_some_iff.1 hp).1
     rcases Bool.or_eq_true _ _ ▸ h5 with h5|h5
     · simp [hl] at h5
     · simp only [List.all_eq_true,List.mem_range] at h5
       have:=h5 j hj;simp only [hp,ht,Bool.or_eq_true,Bool.and_eq_true,decide_eq_true_eq,bne_iff_ne,Bool.not_eq_true',List.contains_eq_mem] at this;rcases this with h6|⟨h6,h7⟩
       · omega
       · refine ⟨fun hlt=>?_,by simpa using h7⟩
         rcases h6 with h6|h6
         · omega
         · exact h6
theorem okLate_p {prs:List (Nat × Nat)}{p:Nat}(h:okLate cx ops prs p=true):∃ (o:Oper) (t:TypeId) (t0:Tmp),ops[p]?=some o∧o.op = .alloc t∧o.guard=none∧o.dst=some t0 ∧
  ∀ {i:Nat} {q:Oper},ops[i]?=some q→i≠p→q.dst≠some t0∧(t0∈q.looksAt ops∨(∃ e∈q.after,Region.binds .any e=true∧e.on=p)→∀ j,j<p→writer cx ops j=true→((masks ops.toList []).getD i 0).testBit j=true):=by
 simp only [okLate,Bool.and_eq_true] at h;obtain ⟨⟨_,h1⟩,h2⟩:=h
 cases ho:ops[p]? with
 | none=>rw [ho] at h1; simp at h1
 | some o =>
  rw [ho] at h1;simp only [Bool.and_eq_true,Option.isNone_iff_eq_none,Option.isSome_iff_exists] at h1;obtain ⟨⟨h3,h4⟩,t0,h5⟩:=h1;split at h3
  · rename_i t hop
    refine ⟨o,t,t0,rfl,hop,h4,h5,fun {i q} hq hne=>?_⟩
    have hi:i<ops.size:=(Array.getElem?_eq_some_iff.1 hq).1;simp only [List.all_eq_true,List.mem_range] at h2;have h6:=h2 i hi;simp only [hq,ho,h5,Option.bind_some,Bool.and_eq_true,Bool.or_eq_true,decide_eq_true_eq,hne,false_or,bne_iff_ne] at h6;obtain ⟨_,h7,h8⟩:=h6;refine ⟨h7,fun hor j hj hw=>?_⟩
    rcases h8 with h8|h8
    · exfalso
      simp only [Bool.not_eq_true',Bool.or_eq_false_iff,List.contains_eq_mem,decide_eq_false_iff_not] at h8;rcases hor with h9|h9
      · exact h8.1 h9
      · obtain ⟨e,he,hb,hep⟩:=h9
        have:=h8.2;simp only [List.any_eq_false,Bool.and_eq_true,decide_eq_true_eq] at this;exact this e (by simpa using he) ⟨hb,hep⟩
    · simp only [List.all_eq_true,List.mem_range,Bool.or_eq_true,Bool.not_eq_true'] at h8
      rcases h8 j hj with h9|h9
      · rw [hw] at h9; cases h9
      · exact h9
  · cases h3
end
theorem varD_shape {P:Program}{h h':H}{t:TypeId}{z:T}{p:D}(h1:varD P h t (.t z)=some (p,h')) :
   ∃ (o:AObj) (top:Nat),p = .ptr h.next 0 0 top∧h'=h.push o∧(∀ n,o.refsB n=true)∧∀ h2:H,varD P h2 t (.t z)=some (.ptr h2.next 0 0 top,h2.push o):=by
 unfold varD at h1;split at h1
 · rename_i hs
   have hrf:∀ (n j:Nat) (c:D),(D.t z).cells[j]?=some c→c.refsB n=true:=fun n j c hc=>by
    simp only [D.cells,List.getElem?_map,Option.map_eq_some_iff] at hc;obtain ⟨x,_,rfl⟩:=hc;rfl
   have plain:(∀ n e,tk P t ≠ .array n e)→p = .ptr h.next 0 0 1→h'=h.push (.row t (D.t z).cells.length [.t z])→∃ (o:AObj) (top:Nat),p = .ptr h.next 0 0 top∧h'=h.push o∧(∀ n,o.refsB n=true)∧∀ h2:H,varD P h2 t (.t z)=some (.ptr h2.next 0 0 top,h2.push o):=by
    intro hk hp hh;refine ⟨_,1,hp,hh,fun n=>by simp [AObj.refsB,D.refsB],fun h2=>?_⟩
    unfold varD;rw [if_pos hs];split
    · rename_i n e he; exact absurd he (hk n e)
    · rfl
   cases hk:tk P t with
   | array n e =>
    simp only [hk] at h1
    cases hse:sz P e with
    | none=>simp [hse] at h1
    | some s =>
      simp only [hse] at h1;split at h1
      · rename_i hl
        cases hc:allM (ofCells (tk P e).isAgg) (chunk s n (D.t z).cells) with
        | none=>simp [hc] at h1
        | some es =>
         simp only [hc,Option.some.injEq,Prod.mk.injEq] at h1;obtain ⟨rfl,rfl⟩:=h1;refine ⟨_,n,rfl,rfl,fun m=>by simp only [AObj.refsB]; exact chunk_refs hc (hrf m),fun h2=>?_⟩
         unfold varD;rw [if_pos hs];simp only [hk,hse];rw [if_pos hl];simp only [hc]
      · cases h1
   | _ =>
    simp only [hk,Option.some.injEq,Prod.mk.injEq] at h1;obtain ⟨rfl,rfl⟩:=h1;exact plain (fun n e he=>by rw [hk] at he; cases he) rfl rfl
 · cases h1
def M.disown (m:M)(id:Nat)(x:MI):M:=⟨Vai.upd m.f id none,fun k=>m.F k∨k=x.blk⟩
theorem M.disown_ne (m:M){id i:Nat}(x:MI)(h:i≠id):(m.disown id x) i=m i:=by simp [M.disown,Vai.upd,h]
theorem M.disown_same (m:M)(id:Nat)(x:MI):(m.disown id x) id=none:=by simp [M.disown,Vai.upd]
theorem M.disown_blocks {m:M}{id:Nat}{x:MI}(hx:m id=some x)(k:Nat):(m.disown id x).blocks k↔m.blocks k:=by
 constructor
 · rintro (⟨i,y,hy,rfl⟩|hk)
   · by_cases e:i=id
     · subst e; rw [M.disown_same] at hy; cases hy
     · rw [M.disown_ne _ _ e] at hy
       exact .inl ⟨i,y,hy,rfl⟩
   · rcases hk with hk|rfl
     · exact .inr hk
     · exact .inl ⟨id,x,hx,rfl⟩
 · rintro (⟨i,y,hy,rfl⟩|hk)
   · by_cases e:i=id
     · subst e
       rw [hx] at hy;cases hy;exact .inr (.inr rfl)
     · exact .inl ⟨i,y,by rw [M.disown_ne _ _ e]; exact hy,rfl⟩
   · exact .inr (.inl hk)
theorem VR.disown {m:M}{w:World}{id:Nat}{x:MI}(hx:m id=some x){d:D}{v:Value}(hd:VR m w d v):VR (m.disown id x) w d v:=by
 have old:∀ {i:Nat} {y:MI},(m.disown id x) i=some y→m i=some y:=fun {i y} h=>by
  by_cases e:i=id
  · subst e; rw [M.disown_same] at h; cases h
  · rwa [M.disown_ne _ _ e] at h
 have tr:∀ {t:T} {v:Value},TR w m.blocks t v→TR w (m.disown id x).blocks t v:=fun h=>h.mono (fun _ _ _=>rfl) fun k _ hk=>(M.disown_blocks hx k).1 hk
 induction hd with
 | undef v=>exact .undef v
 | t h=>exact .t (tr h)
 | agg hl h1 _ ih=>exact .agg hl h1 fun i d v hd hv=>ih i d v hd hv
 | tup hl _ ih=>exact .tup hl fun i d v hd hv=>ih i d v hd hv
 | ptr h1 hp=>exact .ptr h1 fun y hy=>hp y (old hy)
 | eptr hS hc hx' hne=>exact .eptr (fun hb'=>hS ((M.disown_blocks hx _).1 hb')) hc (fun j c hj=>tr (hx' j c hj)) hne
 | row h1 hp=>exact .row h1 fun y hy=>hp y (old hy)
 | func hl hl' _ _ ih ih'=>exact .func hl hl' (fun i d v hd hv=>ih i d v hd hv) (fun i d v hd hv=>ih' i d v hd hv)
 | map h1 hp=>exact .map h1 fun y hy hs=>hp y (old hy) hs
 | iter h1 hp=>exact .iter h1 fun y hy hs=>hp y (old hy) hs
 | iface _ ih=>exact .iface ih
theorem OR.disown {m:M}{w:World}{id:Nat}{x y:MI}{o:AObj}(hx:m id=some x)(h:OR m w y o):OR (m.disown id x) w y o:=by
 cases o with
 | row bt s es =>
  obtain ⟨h1,h2,h3,h4,h5,cur,h6,h7,h8,h9⟩:=h;refine ⟨h1,h2,h3,h4,h5,cur,h6,h7,h8,fun i j d c hd hc=>?_⟩
  obtain ⟨u,hu,hv,ho⟩:=h9 i j d c hd hc;exact ⟨u,hu,hv.disown hx,ho⟩
 | map ents clock =>
  obtain ⟨h1,arr,h2,h3,h4⟩:=h;refine ⟨h1,arr,h2,h3,fun i k d b hi=>?_⟩
  obtain ⟨e,he1,hk,hv,hbn⟩:=h4 i k d b hi;exact ⟨e,he1,hk,hv.disown hx,hbn⟩
 | iter s pos=>exact h
theorem OR.lt {m:M}{w:World}{x:MI}{o:AObj}(h:OR m w x o):x.blk<w.heap.size:=by
 have key:∀ {b:Obj},w.heap[x.blk]?=some b→x.blk<w.heap.size:=fun h=>(Array.getElem?_eq_some_iff.1 h).1
 cases o with
 | row bt s es=>obtain ⟨_,_,_,_,_,cur,h6,_⟩:=h; exact key h6
 | map ents clock=>obtain ⟨_,arr,h2,_⟩:=h; exact key h2
 | iter s pos=>exact key h.2
theorem HR.disown {m:M}{w:World}{h:H}{x:MI}{o:AObj}(hr:HR m w (h.push o))(hn:h.objs h.next=none)(hm0:∀ i p,h.objs i=some p→p.refsB h.next=true)(hlt:∀ i p,h.objs i=some p→i<h.next)(hmk:∀ mk∈h.marks,mk≤h.next∧∀ id p,h.objs id=some p→id<mk→p.refsB mk=true)(hx:m h.next=some x):HR (m.disown h.next x) w h:=by
 refine ⟨fun i p hp=>?_,fun i y hy=>?_,fun i i' y y' hy hy' hbb=>?_,fun i y hy=>?_,fun k hk=>?_,hm0,hmk,hr.glob.sub fun k hk=>(M.disown_blocks hx k).1 hk⟩
 · have e:i≠h.next:=fun e=>by subst e; rw [hn] at hp; cases hp
   obtain ⟨y,hy,hor⟩:=hr.obj i p (by simpa [H.push,upd_ne _ _ e] using hp)
   exact ⟨y,by rw [M.disown_ne _ _ e]; exact hy,hor.disown hx⟩
 · have e:i≠h.next:=fun e=>by subst e; rw [M.disown_same] at hy; cases hy
   rw [M.disown_ne _ _ e] at hy;obtain ⟨h1,h2⟩:=hr.dom i y hy;simp only [H.push,upd_ne _ _ e] at h1 h2;exact ⟨h1,by omega⟩
 · have e:i≠h.next:=fun e=>by subst e; rw [M.disown_same] at hy; cases hy
   have e':i'≠h.next:=fun e=>by subst e; rw [M.disown_same] at hy'; cases hy'
   rw [M.disown_ne _ _ e] at hy;rw [M.disown_ne _ _ e'] at hy';exact hr.inj i i' y y' hy hy' hbb
 · have e:i≠h.next:=fun e=>by subst e; rw [M.disown_same] at hy; cases hy
   rw [M.disown_ne _ _ e] at hy;rintro (hk|hk)
   · exact hr.far i y hy hk
   · exact e (hr.inj i h.next y x hy hx hk)
 · rcases hk with hk|rfl
   · exact hr.old k hk
   · obtain ⟨y,hy,hor⟩:=hr.obj h.next o (by simp [H.push,upd_same])
     rw [hx] at hy;cases hy;exact hor.lt
theorem OR.far {n:Nat}{m m':M}{w w':World}{x:MI}{o:AObj}(h:OR m w x o)(hE:Ext n m w m' w')(hno:¬ m.own x.blk)(hb:o.refsB n=true):OR m' w' x o:=by
 have hk:=hE.keep x.blk h.lt hno
 cases o with
 | row bt s es =>
  obtain ⟨h1,h2,h3,h4,h5,cur,h6,h7,h8,h9⟩:=h;refine ⟨h1,h2,h3,h4,h5,cur,hk.trans h6,h7,h8,fun i j d c hd hc=>?_⟩
  obtain ⟨u,hu,hv,ho⟩:=h9 i j d c hd hc;exact ⟨u,hu,hE.vr hv (cells_refs (all_get hb hd) hc),ho⟩
 | map ents clock =>
  obtain ⟨h1,arr,h2,h3,h4⟩:=h;refine ⟨h1,arr,hk.trans h2,h3,fun i k d b hi=>?_⟩
  obtain ⟨e,he1,hkk,hv,hbn⟩:=h4 i k d b hi;exact ⟨e,he1,hkk,hE.vr hv (all_get (p:=fun e:T × D × Nat=>e.2.1.refsB n) (l:=ents) hb hi),hbn⟩
 | iter s pos=>exact ⟨h.1,hk.trans h.2⟩
theorem Ext.swapF {n:Nat}{m m':M}{w w':World}(h:Ext n m w m' w')(F:Nat→Prop):Ext n ⟨m.f,F⟩ w ⟨m'.f,F⟩ w':=⟨h.os,h.tape,h.output,h.size,h.keep,rfl,h.refs,h.newb⟩
section
variable {P:Program}
set_option maxHeartbeats 1000000 in
theorem region_late {cx:Cc}{call:ACall}(hP:cx.P=P)(hmix:P.follows .mixedOrders=true)(hc:CallOK P call){ops:Array Oper}{id:Nat}{m:M}{w:World}{st fin:St}{a:Act}{Q:Exit→Act→World→Prop}
   {prs:List (Nat × Nat)} {hl0:List H} {p:Nat} (hok:okLate cx ops prs p=true) (hsr:SR dfs m st a w) (hrunH:opListH cx call ops ops.toList st=some (fin,hl0)) (hst:steady cx call ops fin hl0 prs=true) (hQ:∀ a' w' m',SR dfs m' fin a' w'→Left m w st m' w' fin→Q .normal a' w'):(Code.region id ops true).wp P Q a w:=by
 have hrun:=opListH_run _ _ hrunH;have hspec:=okLate_spec hok
 let sts:=stAt cx call ops st
 let dst:Nat→Option Tmp:=fun i=>(ops[i]?).bind (·.dst)
 let cd:Nat→D:=fun i=>match dst i with|some t=>(sts (i+1)).env t|none=>.undef
 let lev:Nat→Nat:=fun i=>((ops[i]?).map fun o=>Op.levelD cx o.op).getD 0
 let hs:Nat→H:=fun i=>(sts i).h
 let σ:(Nat→Bool)→St:=fun S=>⟨st.n,envU dst cd S st.env ops.size,hU lev hs S st.h ops.size⟩
 have hdst:∀ {i:Nat} {o:Oper},ops[i]?=some o→dst i=o.dst:=fun {i o} ho=>by simp [dst,ho]
 have hlev:∀ {i:Nat} {o:Oper},ops[i]?=some o→lev i=Op.levelD cx o.op:=fun {i o} ho=>by simp [lev,ho]
 have hcd:∀ {i:Nat} {o:Oper} {d:D},ops[i]?=some o→sts (i+1)=St.put { sts i with h:=(sts (i+1)).h } o.dst d→∀ s:St,s.put o.dst d=s.put o.dst (cd i):=by
   intro i o d ho he s
   cases hd:o.dst with
   | none=>rfl
   | some t =>
     have h1:cd i=(sts (i+1)).env t:=by simp only [cd,hdst ho,hd]
     have h2:cd i=d:=by
       rw [h1,he,hd];simp only [St.put];exact upd_same _ _ _
     rw [h2]
 have hputE:∀ (s:St) (dt:Option Tmp) (d:D),s.put dt d=⟨s.n,putE s.env dt d,s.h⟩:=fun s dt d=>by cases dt<;>rfl
 -- the states ahead of each operation
 have hcan:∀ k,k≤ops.size→sts k=⟨st.n,envU dst cd (fun _=>true) st.env k,hU lev hs (fun _=>true) st.h k⟩:=by
   intro k
   induction k with
   | zero=>intro _; exact stAt_zero
   | succ k ih =>
     intro hk;have hk':k<ops.size:=by omega
     have ho:ops[k]?=some ops[k]:=by simp [hk']
     obtain ⟨d,h1,h2,_⟩:=oper_frame (stAt_step hrun ho);have h3:=hcd ho h1;have ihk:=ih (by omega)
     have h4:sts (k+1)=St.put { sts k with h:=(sts (k+1)).h } ops[k].dst (cd k):=by
       rw [←h3]; exact h1
     have h5:(sts (k+1)).h=hU lev hs (fun _=>true) st.h (k+1):=by
       simp only [hU,true_and];split
       · rfl
       · rename_i hl
         rw [hlev ho] at hl;have:=h2 hl;have h6:(sts (k+1)).h=(sts k).h:=this;rw [h6,ihk]
     rw [h4,hputE,h5,ihk];simp only [envU,if_true,hdst ho,putE]
 have hend:sts ops.size=fin:=stAt_end hrun;have hfinσ:σ (fun _=>true)=fin:=by rw [←hend,hcan _ (Nat.le_refl _)]
 have h0σ:σ (fun _=>false)=st:=by
   have h1:∀ k,envU dst cd (fun _=>false) st.env k=st.env:=fun k=>by induction k with
     | zero=>rfl
     | succ k ih=>simp only [envU,ih]; rfl
   have h2:∀ k,hU lev hs (fun _=>false) st.h k=st.h:=fun k=>by induction k with
     | zero=>rfl
     | succ k ih=>simp only [hU,ih]; simp
   simp only [σ,h1,h2]
 obtain ⟨po,pt,t0,hpo,hpop,hpg,hpd,hpq⟩:=okLate_p hok;have hplt:p<ops.size:=(Array.getElem?_eq_some_iff.1 hpo).1;have hlp:Op.levelD cx po.op=2:=by rw [hpop]; rfl
 have core:∀ (S:Nat→Bool) (i:Nat) (o:Oper),Closed ops S→(∀ j,S j=true→j<ops.size)→S i=false→ops[i]?=some o→(∀ e∈o.after,Region.binds .any e=true→S e.on=true) →
     (i=p→∀ j,j<p→writer cx ops j=true→S j=true)→(S p=true→∀ j,j<p→writer cx ops j=true→S j=true)→oper cx call ops o (σ S)=some (σ (ins S i)):=by
   intro S i o hcl hdom hSi ho hready hp1 hp2;have hi:i<ops.size:=(Array.getElem?_eq_some_iff.1 ho).1;have hpath:∀ j,((masks ops.toList []).getD i 0).testBit j=true→S j=true:=fun j hj=>masks_spec hcl ops.toList [] (fun k=>by simp) (fun i o hi=>by simp at hi) i o (by simpa using hi) ho hready j hj
   have hpath':∀ j p,S j=true→ops[j]?=some p→((masks ops.toList []).getD j 0).testBit i=true→False:=fun j p hSj hp hb=>by
     have:=masks_spec hcl ops.toList [] (fun k=>by simp) (fun i o hi=>by simp at hi) j p (by simpa using hdom j hSj) hp (hcl j p hSj hp) i hb
     rw [hSi] at this;cases this
   -- against the others
   have before:∀ j,j<i→S j=false→∀ q,ops[j]?=some q→q.apart ops o=true∧¬ (Op.levelD cx q.op=2∧Op.levelD cx o.op=2):=fun j hj hSj q hq=>by
     rcases (hspec.2 ho).2.1 j q hj hq with h1|⟨h1,h2⟩
     · rw [hpath j h1] at hSj; cases hSj
     · refine ⟨h1,fun h3=>?_⟩
       rcases h2 with h2|h2
       · exact h2 h3
       · subst h2
         have:=hp1 rfl j hj (by rw [writer_at hq,h3.1]; rfl)
         rw [hSj] at this;cases this
   have after:∀ j,i<j→S j=true→∀ q,ops[j]?=some q→o.apart ops q=true∧¬ (Op.levelD cx o.op=2∧Op.levelD cx q.op=2):=fun j hj hSj q hq=>by
     rcases (hspec.2 hq).2.1 i o hj ho with h1|⟨h1,h2⟩
     · exact (hpath' j q hSj hq h1).elim
     · refine ⟨h1,fun h3=>?_⟩
       rcases h2 with h2|h2
       · exact h2 h3
       · subst h2
         have:=hp2 hSj i hj (by rw [writer_at ho,h3.1]; rfl)
         rw [hSi] at this;cases this
   have hcani:=hcan i (by omega)
   have henv:∀ t∈o.looksAt ops,(σ S).env t=(sts i).env t:=by
     intro t ht;rw [hcani];simp only [σ];have q1:envU dst cd S st.env ops.size t=envU dst cd S st.env i t:=by
       refine envU_more (by omega) fun j h1 h2 hSj hd=>?_
       have hjo:ops[j]?=some ops[j]:=by simp [h2]
       have hne:i≠j:=fun e=>by subst e; rw [hSi] at hSj; cases hSj
       obtain ⟨_,_,h3⟩:=Oper.apart_spec (after j (by omega) hSj _ hjo).1
       rw [hdst hjo] at hd;exact h3 t hd ht
     rw [q1];refine envU_same fun j hj=>?_
     · cases hSj:S j with
       | true=>exact .inl rfl
       | false =>
         refine .inr fun hd=>?_
         have hj':j<ops.size:=by omega
         have hjo:ops[j]?=some ops[j]:=by simp [hj']
         obtain ⟨h3,_,_⟩:=Oper.apart_spec (before j hj hSj _ hjo).1;rw [hdst hjo] at hd;exact h3 t hd ht
   obtain ⟨d,h1,h2,h3⟩:=oper_frame (stAt_step hrun ho);have hcdo:=hcd ho h1;have h4:∃ d,(∀ s:St,s.put o.dst d=s.put o.dst (cd i))∧oper cx call ops o (σ S)=some (St.put { σ S with h:=if Op.levelD cx o.op=2 then (sts (i+1)).h else (σ S).h } o.dst d):=by
     by_cases hl1:Op.levelD cx o.op=1
     · -- a reading: it answers the same at each state that it may find
       obtain ⟨k,k1,k2,k3,k4⟩:=lastW (lev:=lev) (hs:=hs) (S:=S) (h0:=st.h) (by simp only [hs,sts,stAt_zero]) ops.size
       have hheapk:(σ S).h=(sts k).h:=k2;have hmeets:meets cx ops (masks ops.toList []) i k=true:=by
         simp only [meets,Bool.and_eq_true,Bool.or_eq_true,beq_iff_eq,Bool.not_eq_true',List.all_eq_true,List.mem_range,Bool.and_eq_false_iff,decide_eq_false_iff_not];refine ⟨?_,fun q hq=>?_⟩
         · rcases k3 with rfl|⟨hSk,hlk⟩
           · exact .inl rfl
           · refine .inr ⟨?_,?_⟩
             · have hk':=hdom _ hSk
               have hko:ops[k-1]?=some ops[k-1]:=by simp [hk']
               rw [writer_at hko,←hlev hko,hlk];rfl
             · cases hb:((masks ops.toList []).getD (k-1) 0).testBit i with
               | false=>rfl
               | true =>
                have hk':=hdom _ hSk;have hko:ops[k-1]?=some ops[k-1]:=by simp [hk']
                exact (hpath' (k-1) _ hSk hko hb).elim
         · by_cases hkq:k≤q
           · by_cases hb:((masks ops.toList []).getD i 0).testBit q=true
             · have hqo:ops[q]?=some ops[q]:=by simp [hq]
               have hn:=k4 q hkq hq (hpath q hb);rw [hlev hqo] at hn;refine .inl (.inr ?_);rw [writer_at hqo];simpa using hn
             · exact .inr (by simpa using hb)
           · exact .inl (.inl hkq)
       have hheaps:=heaps_at hrun ops.size 0 hl0 (by simp) (by simpa [stAt_zero] using hrunH)
       have hfin:∀ t∈o.looksAt ops,fin.env t=(σ S).env t:=by
         intro t ht;rw [henv t ht,←hend,hcan _ (Nat.le_refl _),hcani];refine envU_more (by omega) fun j hj1 hj2 _ hd=>?_
         have hjo:ops[j]?=some ops[j]:=by simp [hj2]
         rw [hdst hjo] at hd;exact ((hspec.2 ho).2.2 hl1 j _ t hj1 hjo hd).2 ht
       by_cases hv:verOf cx ops k=verOf cx ops i
       · have q1:=hheaps k (Nat.zero_le _) k1
         have q2:=hheaps i (Nat.zero_le _) (by omega)
         rw [hv] at q1;rw [q1] at q2;have hheap:(σ S).h=(sts i).h:=hheapk.trans (Option.some.inj q2);exact ⟨d,hcdo,h3 (σ S) (by rw [show stAt cx call ops st i=sts i from rfl,hcani]) henv (.inr hheap)⟩
       · have hpair:(i,verOf cx ops k)∈hardPairs cx ops:=by
           simp only [hardPairs,List.mem_flatMap,List.mem_range];refine ⟨i,hi,?_⟩;simp only [ho,hl1,beq_self_eq_true,if_true,List.mem_filterMap,List.mem_range];refine ⟨k,by omega,?_⟩
           have:(verOf cx ops k != verOf cx ops i)=true:=by simpa using hv
           simp [hmeets,this]
         obtain ⟨o2,hh,ho2,hhv,hsame⟩:=steady_spec hst _ _ (hspec.1 _ hpair);rw [ho] at ho2;cases ho2;have q1:=hheaps k (Nat.zero_le _) k1;rw [show verOf cx ops k-verOf cx ops 0=verOf cx ops k from rfl] at q1
         rw [hhv] at q1;have hhk:hh=(sts k).h:=Option.some.inj q1;unfold sameOut at hsame;split at hsame
         · rename_i st1 hop
           obtain ⟨d2,g1,g2,g3⟩:=oper_frame hop;have g4:=g3 (σ S) (by rw [←hfinσ]) (fun t ht=>(hfin t ht).symm) (.inr (by rw [hheapk,hhk]))
           refine ⟨d2,fun s=>?_,?_⟩
           · cases hd:o.dst with
             | none=>rfl
             | some t =>
               rw [hd] at hsame;have e1:=D.beq_eq _ _ hsame;have e2:st1.env t=d2:=by rw [g1,hd]; simp only [St.put]; exact upd_same _ _ _
               have e3:fin.env t=cd i:=by
                have hc1:cd i=(sts (i+1)).env t:=by simp only [cd,hdst ho,hd]
                rw [hc1,←hend,hcan _ (Nat.le_refl _),hcan (i+1) (by omega)]
                refine envU_more (by omega) fun j hj1 hj2 _ hdj=>?_
                have hjo:ops[j]?=some ops[j]:=by simp [hj2]
                rw [hdst hjo] at hdj;exact ((hspec.2 ho).2.2 hl1 j _ t (by omega) hjo hdj).1 (by omega) hd
               rw [←e2,e1,e3]
           · have hn2:¬ Op.levelD cx o.op=2:=by omega
             rw [g4];simp only [hn2,if_false]
         · cases hsame
     · have hheap:Op.levelD cx o.op=0∨(σ S).h=(sts i).h:=by
         by_cases hl0':Op.levelD cx o.op=0
         · exact .inl hl0'
         · have hl2o:Op.levelD cx o.op=2:=by
             have:Op.levelD cx o.op≤2:=by
               unfold Op.levelD
               repeat' split
               all_goals omega
             omega
           refine .inr ?_;rw [hcani];simp only [σ];have q1:hU lev hs S st.h ops.size=hU lev hs S st.h i:=by
             refine hU_more (by omega) fun j h1 h2 hSj hl2=>?_
             have hjo:ops[j]?=some ops[j]:=by simp [h2]
             have hne:i≠j:=fun e=>by subst e; rw [hSi] at hSj; cases hSj
             rw [hlev hjo] at hl2;exact (after j (by omega) hSj _ hjo).2 ⟨hl2o,hl2⟩
           rw [q1];refine hU_same fun j hj=>?_
           · cases hSj:S j with
             | true=>exact .inl rfl
             | false =>
               refine .inr fun hl2=>?_
               have hj':j<ops.size:=by omega
               have hjo:ops[j]?=some ops[j]:=by simp [hj']
               rw [hlev hjo] at hl2;exact (before j hj hSj _ hjo).2 ⟨hl2,hl2o⟩
       exact ⟨d,hcdo,h3 (σ S) (by rw [show stAt cx call ops st i=sts i from rfl,hcani]) henv hheap⟩
   obtain ⟨d,hcdd,h4⟩:=h4;have h5:oper cx call ops o (σ S)=some (σ (ins S i)):=by
     rw [h4,hcdd,hputE];have e1:envU dst cd (ins S i) st.env ops.size=putE (envU dst cd S st.env ops.size) (dst i) (cd i):=envU_ins hSi hi fun j hj hSj t hdi hdj=>by
       have hj':=hdom j hSj;have hjo:ops[j]?=some ops[j]:=by simp [hj']
       obtain ⟨_,h6,_⟩:=Oper.apart_spec (after j hj hSj _ hjo).1;rw [hdst ho] at hdi;rw [hdst hjo] at hdj;exact h6 t hdi hdj
     have e2:hU lev hs (ins S i) st.h ops.size=if lev i=2 then hs (i+1) else hU lev hs S st.h ops.size:=hU_ins hSi hi fun j hj hSj hl hl2=>by
       have hj':=hdom j hSj;have hjo:ops[j]?=some ops[j]:=by simp [hj']
       have h6:=(after j hj hSj _ hjo).2;rw [hlev ho] at hl;rw [hlev hjo] at hl2;exact h6 ⟨hl,hl2⟩
     simp only [σ,e1,e2,hdst ho,hlev ho];rfl
   exact h5
 have halloc:∀ s:St,oper cx call ops po s=thenR s (some t0) (match zeroT cx.P pt with|some z=>varD cx.P s.h pt (.t z)|none=>none):=fun s=>by
   unfold oper;rw [hpg];simp only [runOper,hpop,Op.operands,hpd];simp only [allM,stepD,Op.kindD,effD];cases zeroT cx.P pt<;>rfl
 have hcanon:∃ (oz:AObj) (top:Nat),cd p = .ptr (sts p).h.next 0 0 top∧(sts (p+1)).h=(sts p).h.push oz∧(∀ n,oz.refsB n=true)∧∀ s:St,oper cx call ops po s=some (St.put { s with h:=s.h.push oz } (some t0) (.ptr s.h.next 0 0 top)):=by
   have h1:=stAt_step hrun hpo;rw [halloc] at h1
   cases hz:zeroT cx.P pt with
   | none=>rw [hz] at h1; cases h1
   | some z =>
     rw [hz] at h1;simp only at h1
     cases hv:varD cx.P (stAt cx call ops st p).h pt (.t z) with
     | none=>rw [hv] at h1; cases h1
     | some r =>
       obtain ⟨d,h'⟩:=r;obtain ⟨oz,top,e1,e2,e3,e4⟩:=varD_shape hv;rw [hv] at h1;simp only [thenR,Option.some.injEq] at h1;have h2:sts (p+1)=St.put { sts p with h:=h' } (some t0) d:=h1.symm
       refine ⟨oz,top,?_,?_,e3,fun s=>?_⟩
       · simp only [cd,hdst hpo,hpd,h2,St.put]
         rw [upd_same,e1]
       · rw [h2,e2]; rfl
       · rw [halloc,hz]
         simp only;rw [e4];rfl
 obtain ⟨oz,top,hcdp,hpush,hozr,hal⟩:=hcanon
 let pend:(Nat→Bool)→Prop:=fun S=>S p=true∧∃ j,j<p∧writer cx ops j=true∧S j=false
 let cut:(Nat→Bool)→(Nat→Bool):=fun S j=>if j=p then false else S j
 let σu:(Nat→Bool)→St:=fun S=>{ σ (cut S) with env:=upd (σ (cut S)).env t0 .undef }
 have cutp:∀ S,cut S p=false:=fun S=>by simp [cut]
 have cutne:∀ S j,j≠p→cut S j=S j:=fun S j h=>by simp [cut,h]
 have hS':∀ S S':Nat→Bool,(∀ i,i<ops.size→S i=S' i)→σ S=σ S':=fun S S' hSS=>by
   simp only [σ];have e1:∀ k,k≤ops.size→envU dst cd S st.env k=envU dst cd S' st.env k:=fun k hk=>by
     funext t
     exact envU_same fun j hj=>.inl (hSS j (by omega))
   have e2:hU lev hs S st.h ops.size=hU lev hs S' st.h ops.size:=hU_same fun j hj=>.inl (hSS j hj)
   rw [e1 _ (Nat.le_refl _),e2]
 refine wp_region_any hmix ?_;have hw:SR dfs m st a { w with drawn:=w.drawn+1 }:=by
   have hb:Below w.heap.size w { w with drawn:=w.drawn+1 }:=⟨rfl,rfl,rfl,Nat.le_refl _,fun _ _=>rfl⟩
   exact ⟨hsr.hr.below_ hb,hsr.size,fun i hi=>(hsr.env i hi).bel hb,hsr.refs,hsr.defers⟩
 have hleft:∀ {m':M} {w':World},Left m { w with drawn:=w.drawn+1 } st m' w' fin→Left m w st m' w' fin:=fun h=>⟨⟨h.ext.os,h.ext.tape,h.ext.output,h.ext.size,h.ext.keep,h.ext.away,h.ext.refs,h.ext.newb⟩,h.next,h.marks,h.n⟩
 have hdomS:∀ i,(fun _:Nat=>false) i=(Array.replicate ops.size false).getD i false:=fun i=>by
   simp only [Array.getD_eq_getD_getElem?,Array.getElem?_replicate];split<;>rfl
 have hcnt:∀ n,cnt (fun _=>false) n=n:=fun n=>by induction n with
   | zero=>rfl
   | succ n ih=>simp [cnt,ih]
 generalize hw0:({ w with drawn:=w.drawn+1 }:World)=w0 at hw hleft ⊢
 let J:(Nat→Bool)→Act→World→Prop:=fun S a1 w1 =>
   (¬ pend S→∃ m1,SR dfs m1 (σ S) a1 w1∧Left m w0 st m1 w1 (σ S)) ∧
   (pend S→∃ (m1:M) (x:MI),SR dfs m1 (σu S) a1 w1∧m1.F=(fun k=>m.F k∨k=x.blk)∧¬ m.F x.blk∧OR m1 w1 x oz ∧
     (t0<st.n→(a1.tmps.getD t0 undef).oneCell'=true∧top≤x.top∧(x.top=top→a1.tmps.getD t0 undef = .pointer (some ⟨x.blk,0*x.s+0,none⟩)))∧(m.own x.blk∨w0.heap.size≤x.blk)∧Left m w0 st ⟨m1.f,m.F⟩ w1 (σu S)∧¬ Gl.blk x.blk)
 refine any_inv (P:=P) J (fun i o ho=>(hspec.2 ho).1) (fun S i o hcl hdom hSi ho hready a1 w1 hJ K hK=>?_) (fun S S' a1 w1 hSS hJ=>?_) ops.size (fun _=>false) _ a _ (by simp) hdomS (fun _ _ h=>by cases h) (hcnt _) ?_ fun a' w' hJ=>?_
 · have hi:i<ops.size:=(Array.getElem?_eq_some_iff.1 ho).1
   by_cases hp:pend S
   · -- a new variable that is there already
     obtain ⟨hSp,j0,hj0,hwj0,hSj0⟩:=hp;obtain ⟨m1,x,h,hF,hnF,hor,hptr,hnb,hl,hng⟩:=hJ.2 ⟨hSp,j0,hj0,hwj0,hSj0⟩;have hip:i≠p:=fun e=>by subst e; rw [hSi] at hSp; cases hSp
     have hpath:∀ j,((masks ops.toList []).getD i 0).testBit j=true→S j=true:=fun j hj=>masks_spec hcl ops.toList [] (fun k=>by simp) (fun i o hi=>by simp at hi) i o (by simpa using hi) ho hready j hj
     have noti:∀ {k:Nat} {q:Oper},ops[k]?=some q→k≠p→(∀ j,((masks ops.toList []).getD k 0).testBit j=true→S j=true)→t0∉q.looksAt ops∧∀ e∈q.after,Region.binds .any e=true→e.on≠p:=by
       intro k q hq hkp hm;refine ⟨fun ht=>?_,fun e he hb hep=>?_⟩
       · have:=hm j0 ((hpq hq hkp).2 (.inl ht) j0 hj0 hwj0)
         rw [hSj0] at this; cases this
       · have:=hm j0 ((hpq hq hkp).2 (.inr ⟨e,he,hb,hep⟩) j0 hj0 hwj0)
         rw [hSj0] at this; cases this
     have hin:∀ {k:Nat} {q:Oper},ops[k]?=some q→S k=true→∀ j,((masks ops.toList []).getD k 0).testBit j=true→S j=true:=fun {k q} hq hk j hj =>
       masks_spec hcl ops.toList [] (fun k=>by simp) (fun i o hi=>by simp at hi) k q (by simpa using hdom k hk) hq (hcl k q hk hq) j hj
     have hcl':Closed ops (cut S):=fun k q hk hq e he hb=>by
       by_cases hkp:k=p
       · subst hkp; rw [cutp] at hk; cases hk
       · rw [cutne _ _ hkp] at hk
         have h1:=hcl k q hk hq e he hb;rw [cutne _ _ ((noti hq hkp (hin hq hk)).2 e he hb)];exact h1
     have hdom':∀ j,cut S j=true→j<ops.size:=fun j hj=>by
       by_cases hkp:j=p
       · subst hkp; rw [cutp] at hj; cases hj
       · rw [cutne _ _ hkp] at hj; exact hdom j hj
     have hni:=noti ho hip hpath;have hcore:=core (cut S) i o hcl' hdom' (by rw [cutne _ _ hip]; exact hSi) ho (fun e he hb=>by rw [cutne _ _ (hni.2 e he hb)]; exact hready e he hb) (fun e=>absurd e hip) (fun e=>by rw [cutp] at e; cases e)
     have hci:cut (ins S i)=ins (cut S) i:=by
       funext j
       simp only [cut,ins];by_cases e1:j=i
       · subst e1; simp [hip]
       · simp [e1]
     have hdt:o.dst≠some t0:=(hpq ho hip).1;have hu:oper cx call ops o (σu S)=some (σu (ins S i)):=by
       obtain ⟨d,g1,g2,g3⟩:=oper_frame hcore;rw [g3 (σu S) rfl (fun t ht=>by
         have:t≠t0:=fun e=>hni.1 (e ▸ ht)
         simp only [σu,upd_ne _ _ this]) (.inr rfl)]
       have e1:(if Op.levelD cx o.op=2 then (σ (ins (cut S) i)).h else (σu S).h)=(σ (ins (cut S) i)).h:=by
         split
         · rfl
         · rename_i hl2; exact (g2 hl2).symm
       rw [e1];simp only [σu,hci];rw [hputE] at g1 ⊢;have e2:(σ (ins (cut S) i)).env=putE (σ (cut S)).env o.dst d:=by rw [g1]
       rw [e2];congr 1;have e3:putE (upd (σ (cut S)).env t0 .undef) o.dst d=upd (putE (σ (cut S)).env o.dst d) t0 .undef:=by
         cases hd:o.dst with
         | none=>rfl
         | some t =>
           simp only [putE];exact upd_comm _ _ _ fun e=>hdt (by rw [hd,e])
       rw [e3]
     refine oper_put hP hc h hu fun v w2 m2 h2 hl2=>hK _ _ ?_
     have hno:¬ m1.own x.blk:=fun ⟨i2,y,hy,hb⟩=>h.hr.far i2 y hy (by rw [hF,hb]; exact .inr rfl)
     have hF2:m2.F=(fun k=>m.F k∨k=x.blk):=hl2.ext.away.trans hF
     have hor2:OR m2 w2 x oz:=OR.far hor hl2.ext hno (hozr _);have hval:(a1.put o.dst v).tmps.getD t0 undef=a1.tmps.getD t0 undef:=by
       cases hd:o.dst with
       | none=>rfl
       | some t =>
         have hne:t≠t0:=fun e=>hdt (by rw [hd,e])
         simp [Act.put,Array.getElem?_setIfInBounds_ne hne]
     have hL2:Left m w0 st ⟨m2.f,m.F⟩ w2 (σu (ins S i)):=hl.trans ⟨hl2.ext.swapF m.F,hl2.next,hl2.marks,hl2.n⟩
     rw [←hval] at hptr;refine ⟨fun hnp=>?_,fun _=>⟨m2,x,h2,hF2,hnF,hor2,hptr,hnb,hL2,hng⟩⟩
     -- it becomes an object
     generalize hS2:ins S i=S2 at h2 hl2 hL2 hnp;have hS2p:S2 p=true:=by rw [←hS2]; simp [ins,hSp]
     have hall:∀ j,j<p→writer cx ops j=true→S2 j=true:=fun j hj hwj=>by
       cases hb:S2 j with
       | true=>rfl
       | false=>exact absurd ⟨hS2p,j,hj,hwj,hb⟩ hnp
     have hbeh:∀ j,p<j→S2 j=true→lev j≠2:=fun j hj hSj hlj=>by
       have hj':j<ops.size:=by
         rw [←hS2] at hSj;simp only [ins] at hSj;split at hSj
         · omega
         · exact hdom j hSj
       have hjo:ops[j]?=some ops[j]:=by simp [hj']
       rw [hlev hjo] at hlj;have hj0s:j0<ops.size:=by omega
       have hj0o:ops[j0]?=some ops[j0]:=by simp [hj0s]
       rw [writer_at hj0o] at hwj0;have hbit:((masks ops.toList []).getD j 0).testBit j0=true:=by
         rcases (hspec.2 hjo).2.1 j0 _ (by omega) hj0o with h3|⟨_,h3⟩
         · exact h3
         · rcases h3 with h3|h3
           · exact absurd ⟨by simpa using hwj0,hlj⟩ h3
           · omega
       have:S j0=true:=by
         rw [←hS2] at hSj;simp only [ins] at hSj;split at hSj
         · rename_i e; subst e; exact hpath j0 hbit
         · exact hin hjo hSj j0 hbit
       rw [hSj0] at this;cases this
     have hcutS2:S2=ins (cut S2) p:=by
       funext j
       simp only [cut,ins];by_cases e:j=p
       · subst e; simp [hS2p]
       · simp [e]
     have c1:(σ (cut S2)).h=(sts p).h:=by
       rw [hcan p (by omega)]
       simp only [σ];have q1:hU lev hs (cut S2) st.h ops.size=hU lev hs (cut S2) st.h p:=hU_more (by omega) fun j h3 h4 hSj=>by
         by_cases e:j=p
         · subst e; rw [cutp] at hSj; cases hSj
         · rw [cutne _ _ e] at hSj
           exact hbeh j (by omega) hSj
       rw [q1];refine hU_same fun j hj=>?_
       by_cases hlj:lev j=2
       · refine .inl ?_
         have hj':j<ops.size:=by omega
         have hjo:ops[j]?=some ops[j]:=by simp [hj']
         rw [hlev hjo] at hlj;rw [cutne _ _ (by omega)]
         exact hall j hj (by rw [writer_at hjo,hlj]; rfl)
       · exact .inr hlj
     have c2:(σ S2).h=(sts p).h.push oz:=by
       rw [←hpush];simp only [σ];have q1:hU lev hs S2 st.h ops.size=hU lev hs S2 st.h (p+1):=hU_more (by omega) fun j h3 h4 hSj=>hbeh j (by omega) hSj
       rw [q1];have hlvp:lev p=2:=by rw [hlev hpo,hlp]
       simp only [hU];rw [if_pos ⟨hS2p,hlvp⟩]
     have c3:(σ S2).env=upd (σ (cut S2)).env t0 (cd p):=by
       simp only [σ];have q1:envU dst cd (ins (cut S2) p) st.env ops.size=putE (envU dst cd (cut S2) st.env ops.size) (dst p) (cd p):=envU_ins (cutp S2) hplt fun j hj hSj t hdi hdj=>by
         have hj':j<ops.size:=by
           by_cases h3:j<ops.size
           · exact h3
           · exfalso
             have:dst j=none:=by simp [dst,Array.getElem?_eq_none (by omega:ops.size≤j)]
             rw [this] at hdj; cases hdj
         have hjo:ops[j]?=some ops[j]:=by simp [hj']
         rw [hdst hpo,hpd] at hdi;rw [hdst hjo,←hdi] at hdj;exact (hpq hjo (by omega)).1 hdj
       rw [←hcutS2] at q1;rw [q1,hdst hpo,hpd];rfl
     have hue:∀ t,t≠t0→(σu S2).env t=(σ S2).env t:=fun t ht=>by rw [c3,upd_ne _ _ ht]; simp only [σu,upd_ne _ _ ht]
     have huh:(σu S2).h=(sts p).h:=c1;have hn2:m2 (sts p).h.next=none:=by
       cases hq:m2 (sts p).h.next with
       | none=>rfl
       | some y =>
         have:=(h2.hr.dom _ y hq).2;rw [huh] at this;exact absurd this (Nat.lt_irrefl _)
     have hF2x:m2.F x.blk:=by rw [hF2]; exact .inr rfl
     have hr2:=h2.hr;rw [huh] at hr2;have hrefs2:=h2.refs;rw [huh] at hrefs2;refine ⟨m2.adopt (sts p).h.next x,⟨?_,h2.size,fun t ht=>?_,fun t ht=>?_,h2.defers⟩,⟨⟨hL2.ext.os,hL2.ext.tape,hL2.ext.output,hL2.ext.size,hL2.ext.keep,?_,fun k y hk hy=>?_,fun k y hy=>?_⟩,?_,?_,hL2.n⟩⟩
     · rw [c2]
       exact HR.adopt hr2 hF2x (hor2.adopt hn2 hF2x (hozr _)) (hozr _) hng
     · by_cases e:t=t0
       · subst e
         rw [c3,upd_same,hcdp];obtain ⟨g1,g2⟩:=hptr ht;exact .ptr g1 fun y hy=>by
           rw [M.adopt_same] at hy;cases hy;exact g2
       · have h3:=h2.env t ht
         rw [hue t e] at h3;have h4:=hrefs2 t ht;rw [hue t e] at h4;exact h3.adopt hn2 hF2x h4
     · rw [c2]
       by_cases e:t=t0
       · subst e
         rw [c3,upd_same,hcdp];simp [D.refsB,H.push]
       · have h4:=hrefs2 t ht
         rw [hue t e] at h4;exact D.refsB_mono (by simp [H.push]) _ h4
     · funext k
       simp only [M.adopt,hF2,eq_iff_iff];constructor
       · rintro ⟨h3|h3,h4⟩
         · exact h3
         · exact absurd h3 h4
       · intro h3
         exact ⟨.inl h3,fun e=>hnF (e ▸ h3)⟩
     · have hle:=hL2.next
       rw [huh] at hle;rw [M.adopt_ne _ _ (by omega)] at hy
       exact hL2.ext.refs k y hk hy
     · by_cases e:k=(sts p).h.next
       · subst e
         rw [M.adopt_same] at hy;cases hy;exact hnb
       · rw [M.adopt_ne _ _ e] at hy
         exact hL2.ext.newb k y hy
     · have hle:=hL2.next
       rw [huh] at hle;rw [c2];simp only [H.push];omega
     · have hmk:=hL2.marks
       rw [huh] at hmk;rw [c2];simp only [H.push];exact hmk
   · obtain ⟨m1,h,hl⟩:=hJ.1 hp
     by_cases hearly:i=p∧∃ j,j<p∧writer cx ops j=true∧S j=false
     · obtain ⟨rfl,hex⟩:=hearly
       rw [hpo] at ho;cases ho;have hpe:pend (ins S i):=⟨by simp [ins],hex.elim fun j ⟨h1,h2,h3⟩=>⟨j,h1,h2,by simp only [ins]; rw [if_neg (by omega)]; exact h3⟩⟩
       refine oper_sound hP hc h (hal (σ S)) fun a2 w2 m2 h2 hl2=>hK _ _ ⟨fun hn=>absurd hpe hn,fun _=>?_⟩
       have hcutS:cut (ins S i)=S:=by
         funext j
         simp only [cut,ins];by_cases e:j=i
         · subst e; simp [hSi]
         · simp [e]
       obtain ⟨x,hx,hor⟩:=h2.hr.obj (σ S).h.next oz (by simp [St.put,H.push,upd_same])
       have hr2:HR m2 w2 ((σ S).h.push oz):=h2.hr;have hobj:∀ i p,(σ S).h.objs i=some p→i<(σ S).h.next:=fun i p hp=>by
         obtain ⟨y,hy,_⟩:=h.hr.obj i p hp;exact (h.hr.dom i y hy).2
       have hnone:(σ S).h.objs (σ S).h.next=none:=by
         cases hq:(σ S).h.objs (σ S).h.next with
         | none=>rfl
         | some q=>exact absurd (hobj _ q hq) (Nat.lt_irrefl _)
       have hee:∀ t,t≠t0→(St.put { σ S with h:=(σ S).h.push oz } (some t0) (.ptr (σ S).h.next 0 0 top)).env t=(σ S).env t:=fun t ht=>by simp only [St.put,upd_ne _ _ ht]
       have hF2:m2.F=m.F:=hl2.ext.away.trans hl.ext.away;refine ⟨m2.disown (σ S).h.next x,x,⟨?_,h2.size,fun t ht=>?_,fun t ht=>?_,h2.defers⟩,?_,?_,hor.disown hx,fun ht=>?_,?_,?_,fun hg=>(hr2.glob.2 _ hg).2 (.inl ⟨_,x,hx,rfl⟩)⟩
       · simp only [σu,hcutS]
         exact HR.disown hr2 hnone h.hr.below hobj h.hr.marks hx
       · simp only [σu,hcutS]
         by_cases e:t=t0
         · subst e; rw [upd_same]; exact .undef _
         · rw [upd_ne _ _ e,←hee t e]
           exact (h2.env t ht).disown hx
       · simp only [σu,hcutS]
         by_cases e:t=t0
         · subst e; rw [upd_same]; rfl
         · rw [upd_ne _ _ e]
           exact h.refs t ht
       · simp only [M.disown,hF2]
       · intro hk
         exact hr2.far _ x hx (by rw [hF2]; exact hk)
       · have h3:=h2.env t0 ht
         have e:(St.put { σ S with h:=(σ S).h.push oz } (some t0) (.ptr (σ S).h.next 0 0 top)).env t0 = .ptr (σ S).h.next 0 0 top:=by simp only [St.put,upd_same]
         rw [e] at h3;generalize a2.tmps.getD t0 undef=v at h3
         cases h3 with
         | ptr g1 g2=>exact ⟨g1,g2 x hx⟩
       · rcases hl2.ext.newb _ x hx with ⟨i2,y,hy,hb⟩|h3
         · rcases hl.ext.newb i2 y hy with h4|h4
           · exact .inl (hb ▸ h4)
           · exact .inr (hb ▸ h4)
         · exact .inr (Nat.le_trans hl.ext.size h3)
       · have hT:=hl.trans hl2
         have hsu:(σu (ins S i)).h=(σ S).h:=by simp only [σu,hcutS]
         refine ⟨⟨hT.ext.os,hT.ext.tape,hT.ext.output,hT.ext.size,hT.ext.keep,rfl,fun k y hk hy=>?_,fun k y hy=>?_⟩,?_,?_,rfl⟩
         · have hle:=hl.next
           have:(m2.disown (σ S).h.next x) k=some y:=hy
           rw [M.disown_ne _ _ (by omega)] at this
           exact hT.ext.refs k y hk this
         · have h4:(m2.disown (σ S).h.next x) k=some y:=hy
           by_cases e:k=(σ S).h.next
           · subst e; rw [M.disown_same] at h4; cases h4
           · rw [M.disown_ne _ _ e] at h4
             exact hT.ext.newb k y h4
         · rw [hsu]; exact hl.next
         · rw [hsu]; exact hl.marks
     · have hw1:i=p→∀ j,j<p→writer cx ops j=true→S j=true:=fun e j hj hwj=>by
         cases hb:S j with
         | true=>rfl
         | false=>exact absurd ⟨e,j,hj,hwj,hb⟩ hearly
       have hw2:S p=true→∀ j,j<p→writer cx ops j=true→S j=true:=fun e j hj hwj=>by
         cases hb:S j with
         | true=>rfl
         | false=>exact absurd ⟨e,j,hj,hwj,hb⟩ hp
       have h5:=core S i o hcl hdom hSi ho hready hw1 hw2;have hnp:¬ pend (ins S i):=by
         rintro ⟨h1,j,hj,hwj,hSj⟩;simp only [ins] at h1 hSj;split at hSj
         · cases hSj
         · have:S j=true:=by
             split at h1
             · rename_i e; exact hw1 e.symm j hj hwj
             · exact hw2 h1 j hj hwj
           rw [hSj] at this;cases this
       exact oper_sound hP hc h h5 fun a2 w2 m2 h2 hl2=>hK _ _ ⟨fun _=>⟨m2,h2,hl.trans hl2⟩,fun hn=>absurd hn hnp⟩
 · have e1:σ S=σ S':=hS' S S' hSS
   have e2:σ (cut S)=σ (cut S'):=hS' _ _ fun j hj=>by
     simp only [cut];split
     · rfl
     · exact hSS j hj
   have e3:σu S=σu S':=by simp only [σu,e2]
   have e4:pend S↔pend S':=by
     simp only [pend];rw [hSS p hplt];constructor
     · rintro ⟨h1,j,h2,h3,h4⟩; exact ⟨h1,j,h2,h3,by rw [←hSS j (by omega)]; exact h4⟩
     · rintro ⟨h1,j,h2,h3,h4⟩; exact ⟨h1,j,h2,h3,by rw [hSS j (by omega)]; exact h4⟩
   simp only [J] at hJ ⊢;rw [←e1,←e3,←e4];exact hJ
 · refine ⟨fun _=>⟨m,by rw [h0σ]; exact hw,by rw [h0σ]; exact Left.refl _ _ _⟩,fun hp=>?_⟩
   cases hp.1
 · obtain ⟨m1,h1,hl1⟩:=hJ.1 fun ⟨_,j,_,_,hj⟩=>by cases hj
   rw [hfinσ] at h1 hl1;exact hQ a' w' m1 h1 (hleft hl1)
end
end Vai

namespace Vai
open Go
open Go.RowKit (Below)
variable [Gl]{dfs:List Deferred}
def XQ (dfs:List Deferred)(st:St)(m:M)(w:World)(x:X)(st':St):Exit→Act→World→Prop:=fun e a' w'=>match x with
 | .norm=>e = .normal∧∃ m',SR dfs m' st' a' w'∧Left m w st m' w' st'
 | .exit i=>e = .exit i∧∃ m',SR dfs m' st' a' w'∧Left m w st m' w' st'
 | .ret=>e = .ret∧∃ m',SR dfs m' st' a' w'∧Left m w st m' w' st'
 | .pan x=>∃ v m',e = .panic [{ v:=v,recovered:=false }]∧PanE dfs m w st x st' v m' w' a'
section
variable {P:Program}
def ItOK (P:Program)(it:Iter):Prop:=∀ (dfs:List Deferred) (c:Code) (f:St→CR),(∀ (st:St) (x:X) (st':St) (m:M) (w:World) (a:Act),f st=some (x,st')→SR dfs m st a w→c.wp P (XQ dfs st m w x st') a w) →
 ∀ (st:St) (x:X) (st':St) (m:M) (w:World) (a:Act),it f st=some (x,st')→SR dfs m st a w→(Code.loop c).wp P (XQ dfs st m w x st') a w
theorem XQ.mono {st st1:St}{m m1:M}{w w1:World}{x:X}{st':St}(h:Left m w st m1 w1 st1){e:Exit}{a':Act}{w':World}(hq:XQ dfs st1 m1 w1 x st' e a' w'):XQ dfs st m w x st' e a' w' :=
 match x,hq with
 | .norm,hq=>⟨hq.1,hq.2.elim fun m' hh=>⟨m',hh.1,h.trans hh.2⟩⟩
 | .exit _,hq=>⟨hq.1,hq.2.elim fun m' hh=>⟨m',hh.1,h.trans hh.2⟩⟩
 | .ret,hq=>⟨hq.1,hq.2.elim fun m' hh=>⟨m',hh.1,h.trans hh.2⟩⟩
 | .pan _,hq=>let ⟨v,m',he,hp⟩:=hq; ⟨v,m',he,hp.trans h⟩
theorem iter_ok:∀ n,ItOK P (iter n):=by
 intro n dfs c f hf st x st' m w a hi hsr
 suffices h:∃ k,Code.rounds P c (XQ dfs st m w x st') k a w from h.elim fun k hk=>wp_loop_rounds k hk
 suffices h:∀ (n:Nat) (st0:St) (m0:M) (w0:World) (a0:Act),iter n f st0=some (x,st')→SR dfs m0 st0 a0 w0→Left m w st m0 w0 st0→Code.rounds P c (XQ dfs st m w x st') n a0 w0 from ⟨n,h n st m w a hi hsr (Left.refl _ _ _)⟩
 intro n
 induction n with
 | zero=>intro st0 m0 w0 a0 h; cases h
 | succ n ih =>
  intro st0 m0 w0 a0 h hsr hl;rw [rounds_succ];simp only [iter] at h
  cases hfs:f st0 with
  | none=>rw [hfs] at h; cases h
  | some r =>
   obtain ⟨x1,st1⟩:=r;rw [hfs] at h;refine Code.wp_mono (fun e a1 w1 hq=>?_) (hf st0 x1 st1 m0 w0 a0 hfs hsr)
   cases x1 with
   | norm =>
    obtain ⟨he,m1,h1,hl1⟩:=hq;simp only at he h;subst he;exact ih st1 m1 w1 a1 h h1 (hl.trans hl1)
   | exit i =>
    obtain ⟨he,m1,h1,hl1⟩:=hq;simp only [Option.some.injEq,Prod.mk.injEq] at he h;obtain ⟨rfl,rfl⟩:=h;subst he;exact ⟨rfl,m1,h1,hl.trans hl1⟩
   | ret =>
    obtain ⟨he,m1,h1,hl1⟩:=hq;simp only [Option.some.injEq,Prod.mk.injEq] at he h;obtain ⟨rfl,rfl⟩:=h;subst he;exact ⟨rfl,m1,h1,hl.trans hl1⟩
   | pan y =>
    obtain ⟨v,m1,he,hp⟩:=hq;simp only [Option.some.injEq,Prod.mk.injEq] at h;obtain ⟨rfl,rfl⟩:=h;subst he;exact ⟨v,m1,rfl,hp.trans hl⟩
theorem code_sound {cx:Cc}{call:ACall}{it:Iter}(hP:cx.P=P)(hmix:P.follows .mixedOrders=true)(hc:CallOK P call)(hit:ItOK P it):∀ (c:Code) (st:St) (x:X) (st':St) (m:M) (w:World) (a:Act),okCode cx c=true →
  code cx call it c st=some (x,st')→SR dfs m st a w→c.wp P (XQ dfs st m w x st') a w:=by
 intro c
 induction c with
 | skip =>
  intro st x st' m w a _ h hsr;simp only [code,Option.some.injEq,Prod.mk.injEq] at h;obtain ⟨rfl,rfl⟩:=h;exact wp_skip ⟨rfl,m,hsr,Left.refl _ _ _⟩
 | label l =>
  intro st x st' m w a _ h hsr;simp only [code,Option.some.injEq,Prod.mk.injEq] at h;obtain ⟨rfl,rfl⟩:=h;exact wp_label ⟨rfl,m,hsr,Left.refl _ _ _⟩
 | exit id =>
  intro st x st' m w a _ h hsr;simp only [code,Option.some.injEq,Prod.mk.injEq] at h;obtain ⟨rfl,rfl⟩:=h;exact wp_exit ⟨rfl,m,hsr,Left.refl _ _ _⟩
 | ret =>
  intro st x st' m w a _ h hsr;simp only [code,Option.some.injEq,Prod.mk.injEq] at h;obtain ⟨rfl,rfl⟩:=h;exact wp_ret ⟨rfl,m,hsr,Left.refl _ _ _⟩
 | region id ops draw =>
  intro st x st' m w a hok h hsr;have easy:∀ (hdr:draw=true→okRegion cx ops=true),regC (opList cx call ops ops.toList st)=some (x,st')→(Code.region id ops draw).wp P (XQ dfs st m w x st') a w:=by
    intro hdr h;simp only [regC] at h;split at h
    · rename_i fin hrun
      simp only [Option.some.injEq,Prod.mk.injEq] at h;obtain ⟨rfl,rfl⟩:=h
      cases hd:draw with
      | false=>exact wp_region_list (opList_sound hP hc _ hsr hrun fun a' w' m' h' hl=>⟨rfl,m',h',hl⟩)
      | true=>exact region_easy hP hmix hc (hdr hd) hsr hrun fun a' w' m' h' hl=>⟨rfl,m',h',hl⟩
    · cases h
  simp only [code] at h
  cases hd:draw with
  | false =>
    subst hd;simp only [Bool.false_eq_true,if_false,drawC] at h
    cases hrun:opList cx call ops ops.toList st with
    | some fin =>
      rw [hrun] at h;exact easy (fun h=>by cases h) (by rw [hrun]; exact h)
    | none =>
      rw [hrun] at h;simp only [regK] at h
      cases hpan:panList cx call ops ops.toList st with
      | none=>rw [hpan] at h; cases h
      | some r =>
        obtain ⟨y,st1⟩:=r;rw [hpan] at h;simp only [panK,Option.some.injEq,Prod.mk.injEq] at h;obtain ⟨rfl,rfl⟩:=h;exact wp_region_list (panList_sound hP hc _ hsr hpan fun v a' w' m' hp=>⟨v,m',rfl,hp⟩)
  | true =>
    subst hd;simp only [if_true] at h;simp only [okCode,Bool.not_true,Bool.false_or] at hok
    cases hh:cx.hard id with
    | none =>
      rw [hh] at h hok;exact easy (fun _=>hok) h
    | some prs =>
      rw [hh] at h hok;simp only [drawC,hardC] at h;split at h
      · rename_i fin hs hrun
        split at h
        · rename_i hst
          simp only [Option.some.injEq,Prod.mk.injEq] at h;obtain ⟨rfl,rfl⟩:=h;rcases Bool.or_eq_true _ _ ▸ hok with hok|hok
          · exact region_hard hP hmix hc hok hsr hrun hst fun a' w' m' h' hl=>⟨rfl,m',h',hl⟩
          · obtain ⟨p,_,hp⟩:=List.any_eq_true.1 hok
            exact region_late hP hmix hc hp hsr hrun hst fun a' w' m' h' hl=>⟨rfl,m',h',hl⟩
        · cases h
      · cases h
 | seq c1 c2 ih1 ih2 =>
  intro st x st' m w a hok h hsr;simp only [okCode,Bool.and_eq_true] at hok;simp only [code,thenC] at h
  cases h1:code cx call it c1 st with
  | none=>rw [h1] at h; cases h
  | some r =>
    obtain ⟨x1,st1⟩:=r;rw [h1] at h;refine wp_seq (Code.wp_mono (fun e a1 w1 hq=>?_) (ih1 st x1 st1 m w a hok.1 h1 hsr))
    cases x1 with
    | pan y =>
      obtain ⟨v,m1,he,hp⟩:=hq;simp only [Option.some.injEq,Prod.mk.injEq] at h;obtain ⟨rfl,rfl⟩:=h;subst he;exact ⟨v,m1,rfl,hp⟩
    | norm =>
      obtain ⟨he,m1,hs1,hl1⟩:=hq;simp only at he h;subst he;exact Code.wp_mono (fun e a2 w2 hq=>hq.mono hl1) (ih2 st1 x st' m1 w1 a1 hok.2 h hs1)
    | exit i =>
      obtain ⟨he,m1,hs1,hl1⟩:=hq;simp only [Option.some.injEq,Prod.mk.injEq] at he h;obtain ⟨rfl,rfl⟩:=h;subst he;exact ⟨rfl,m1,hs1,hl1⟩
    | ret =>
      obtain ⟨he,m1,hs1,hl1⟩:=hq;simp only [Option.some.injEq,Prod.mk.injEq] at he h;obtain ⟨rfl,rfl⟩:=h;subst he;exact ⟨rfl,m1,hs1,hl1⟩
 | cond c c1 c2 ih1 ih2 =>
  intro st x st' m w a hok h hsr;simp only [okCode,Bool.and_eq_true] at hok;simp only [code,condC] at h;split at h
  · rename_i b hev
    obtain ⟨hv,_⟩:=ev_sound hsr hev;generalize hval:a.eval c=v at hv
    cases hv with
    | t hx =>
    cases hx;refine wp_cond hval ?_;cases b
    · exact ih2 st x st' m w a hok.2 h hsr
    · exact ih1 st x st' m w a hok.1 h hsr
  · cases h
 | block id c ih =>
  intro st x st' m w a hok h hsr;simp only [code,blockC] at h
  cases h1:code cx call it c st with
  | none=>rw [h1] at h; cases h
  | some r =>
    obtain ⟨x1,st1⟩:=r;rw [h1] at h;refine wp_block (Code.wp_mono (fun e a1 w1 hq=>?_) (ih st x1 st1 m w a (by simpa [okCode] using hok) h1 hsr))
    cases x1 with
    | pan y =>
      obtain ⟨v,m1,he,hp⟩:=hq;simp only [Option.some.injEq,Prod.mk.injEq] at h;obtain ⟨rfl,rfl⟩:=h;subst he;exact ⟨v,m1,rfl,hp⟩
    | norm =>
      obtain ⟨he,m1,hs1,hl1⟩:=hq;simp only [Option.some.injEq,Prod.mk.injEq] at he h;obtain ⟨rfl,rfl⟩:=h;subst he;exact ⟨rfl,m1,hs1,hl1⟩
    | exit i =>
      obtain ⟨he,m1,hs1,hl1⟩:=hq;simp only at he h;subst he;simp only [Exit.inBlock];split at h
      · rename_i e
        simp only [Option.some.injEq,Prod.mk.injEq] at h;obtain ⟨rfl,rfl⟩:=h;rw [if_pos e];exact ⟨rfl,m1,hs1,hl1⟩
      · rename_i e
        simp only [Option.some.injEq,Prod.mk.injEq] at h;obtain ⟨rfl,rfl⟩:=h;rw [if_neg e];exact ⟨rfl,m1,hs1,hl1⟩
    | ret =>
      obtain ⟨he,m1,hs1,hl1⟩:=hq;simp only [Option.some.injEq,Prod.mk.injEq] at he h;obtain ⟨rfl,rfl⟩:=h;subst he;exact ⟨rfl,m1,hs1,hl1⟩
 | loop c ih =>
  intro st x st' m w a hok h hsr;simp only [code] at h;exact hit dfs c _ (fun st x st' m w a h hsr=>ih st x st' m w a (by simpa [okCode] using hok) h hsr) st x st' m w a h hsr
 | _=>intro st x st' m w a _ h; simp [code] at h
def resRun (tmps:Array Value):ResultVar→Sem Value
 | .tmp t=>pure (tmps.getD t undef)
 | .cell a t=>do loadVar t (←asAddr (tmps.getD a undef))
theorem sure_as {t:TypeId}{v u:Value}{w:World}(h:(Instr.loadAt t v).run P w = .ok u w):(do loadVar t (←asAddr v):Sem Value).run P w = .ok u w:=by
 unfold Instr.loadAt at h
 cases v with
 | pointer a =>
  cases a with
  | some a=>simpa [Instr.sureAddr,asAddr] using h
  | none=>simp [Instr.sureAddr,stuck] at h
 | _=>simp [Instr.sureAddr,stuck] at h
theorem result_sound {m:M}{st:St}{a:Act}{w:World}(h:SR dfs m st a w){r:ResultVar}{d:D}(hd:resultD P st r=some d) :
  ∃ v,(resRun a.tmps r).run P w = .ok v w∧VR m w d v∧d.refsB st.h.next=true:=by
 cases r with
 | tmp t =>
  simp only [resultD] at hd;split at hd
  · cases hd
    exact ⟨_,rfl,h.env t (by assumption),h.refs t (by assumption)⟩
  · cases hd
 | cell b t =>
  simp only [resultD] at hd;split at hd
  · rename_i hb
    obtain ⟨v,hv,hvr⟩:=load_sound (P:=P) h.hr (h.env b hb) hd;exact ⟨v,sure_as hv,hvr,loadD_refs h.hr hd⟩
  · cases hd
theorem mapM_run {α:Type}{f:α→Sem Value}{w:World}:∀ {l:List α} {vs:List Value},l.length=vs.length→(∀ (i:Nat) (x:α) (v:Value),l[i]?=some x→vs[i]?=some v→(f x).run P w = .ok v w)→(l.mapM f).run P w = .ok vs w
 | [],[],_,_=>by simp
 | x::xs,v::vs,hl,h=>by
  rw [List.mapM_cons];have h1:=h 0 x v rfl rfl;have h2:=mapM_run (f:=f) (l:=xs) (vs:=vs) (by simpa using hl) fun i y u hy hu=>h (i+1) y u (by simpa using hy) (by simpa using hu)
  simp [h1,h2]
 | [],_::_,hl,_=>by simp at hl
 | _::_,[],hl,_=>by simp at hl
theorem exists_vals {α:Type}{p:α→D→Value→Prop}:∀ {l:List α} {ds:List D},l.length=ds.length→(∀ (i:Nat) (x:α) (d:D),l[i]?=some x→ds[i]?=some d→∃ v,p x d v) →
  ∃ vs:List Value,vs.length=l.length∧∀ (i:Nat) (x:α) (d:D) (v:Value),l[i]?=some x→ds[i]?=some d→vs[i]?=some v→p x d v
 | [],[],_,_=>⟨[],rfl,fun i x d v hx=>by simp at hx⟩
 | x::xs,d::ds,hl,h=>by
  obtain ⟨v,hv⟩:=h 0 x d rfl rfl;obtain ⟨vs,h1,h2⟩:=exists_vals (p:=p) (l:=xs) (ds:=ds) (by simpa using hl) fun i y u hy hu=>h (i+1) y u (by simpa using hy) (by simpa using hu)
  refine ⟨v::vs,by simp [h1],fun i y e u hy he hu=>?_⟩
  cases i with
  | zero=>simp at hy he hu; subst hy; subst he; subst hu; exact hv
  | succ i=>exact h2 i y e u (by simpa using hy) (by simpa using he) (by simpa using hu)
 | [],_::_,hl,_=>by simp at hl
 | _::_,[],hl,_=>by simp at hl
theorem VR.noPan {m:M}{w:World}{d:D}{v:Value}(h:VR m w d v):d.isPan=false:=by
 cases h<;>rfl
theorem results_sound {m:M}{st:St}{a:Act}{w:World}(h:SR dfs m st a w){fn:Func}{d:D}(hd:resultsD P st fn.results.toList=some d) :
  ∃ v,(results fn a.tmps).run P w = .ok v w∧VR m w d v∧d.refsB st.h.next=true:=by
 have hr:results fn a.tmps=(do let vs ←fn.results.mapM (resRun a.tmps); pure (if h:vs.size=1 then vs[0] else .tuple vs)):=by
  unfold results;congr 1
 rw [hr,Array.mapM_eq_mapM_toList];unfold resultsD at hd
 cases hall:allM (resultD P st) fn.results.toList with
 | none=>rw [hall] at hd; cases hd
 | some ds =>
  rw [hall] at hd;obtain ⟨hl,hf⟩:=allM_some hall;obtain ⟨vs,hvl,hvs⟩:=exists_vals (p:=fun r d v=>(resRun a.tmps r).run P w = .ok v w∧VR m w d v∧d.refsB st.h.next=true) hl fun i r d hr hd=>result_sound h (hf i r d hr hd)
  have hget:∀ (i:Nat) (d:D) (v:Value),ds[i]?=some d→vs[i]?=some v→VR m w d v∧d.refsB st.h.next=true:=fun i d v hd hv=>by
    have hi:i<fn.results.toList.length:=by rw [hl]; exact (List.getElem?_eq_some_iff.1 hd).1
    exact (hvs i _ d v (List.getElem?_eq_getElem hi) hd hv).2
  have hm:=mapM_run (P:=P) (f:=resRun a.tmps) (w:=w) (l:=fn.results.toList) (vs:=vs) hvl.symm fun i r v hr hv=>by
    have hi:i<ds.length:=by rw [←hl]; exact (List.getElem?_eq_some_iff.1 hr).1
    exact (hvs i r _ v hr (List.getElem?_eq_getElem hi) hv).1
  have hlen:vs.length=ds.length:=by omega
  have one:∀ d0,ds=[d0]→∃ v0,vs=[v0]:=fun d0 e=>by
    subst e
    match vs,hlen with
    | [v0],_=>exact ⟨v0,rfl⟩
  split at hd
  · rename_i d0 e
    simp only [Option.some.injEq] at e hd;subst hd;obtain ⟨v0,rfl⟩:=one _ e;subst e;refine ⟨v0,?_,hget 0 _ _ rfl rfl⟩;simp [hm]
  · rename_i ds' hne e
    simp only [Option.some.injEq] at e hd;subst e hd;have hn1:¬ vs.length=1:=by
      intro h1;rw [hlen] at h1
      match ds,h1 with
      | [d0],_=>exact hne d0 rfl
    refine ⟨.tuple vs.toArray,?_,.tup (by simp [hlen]) fun i d v hd hv=>(hget i d v hd (by simpa using hv)).1,?_⟩
    · simp [hm,hn1]
    · simp only [D.refsB]
      refine allM_refs fun j c hj=>?_
      have hj':j<vs.length:=by rw [hlen]; exact (List.getElem?_eq_some_iff.1 hj).1
      exact (hget j c _ hj (List.getElem?_eq_getElem hj')).2
  · cases hd
theorem func_sound {cx:Cx}{call:ACall}{it:Iter}(hP:cx.P=P)(hmix:P.follows .mixedOrders=true)(hc:CallOK P call)(hit:ItOK P it):CallOK P (func cx call it):=by
 intro k args h d h' m w vs hr hv hcall;unfold func at hcall;split at hcall
 · rename_i fn hf
   split at hcall
   · rename_i hcond
     obtain ⟨hok,hle⟩:=hcond;rw [hP] at hf;unfold okFunc at hok;split at hok
     · rename_i c hb
       have hbody:bodyOf fn=c:=by simp [bodyOf,hb]
       rw [hbody] at hcall;refine calls_of_wp hf hb ?_;have hsr:SR [] m ⟨fn.ntmps,enterE args,h⟩ { tmps:=vs++Array.replicate (fn.ntmps-vs.size) undef,defers:=[] } w:=by
         have hl:=hv.1;have hg:∀ i,i<args.length→∃ (d:D) (v:Value),args[i]?=some d∧vs[i]?=some v∧enterE args i=d∧(vs++Array.replicate (fn.ntmps-vs.size) undef).getD i undef=v:=fun i hi=>by
           have hi':i<vs.size:=by omega
           refine ⟨args[i],vs[i],by simp [hi],by simp [hi'],by simp [enterE,hi],?_⟩
           simp [Array.getElem?_append,hi']
         refine ⟨hr,by simp; omega,fun i hi=>?_,fun i hi=>?_,rfl⟩
         · by_cases e:i<args.length
           · obtain ⟨d,v,h1,h2,h3,h4⟩:=hg i e
             simp only [h3,h4];exact (hv.2 i d v h1 h2).1
           · have:enterE args i = .undef:=by simp [enterE,List.getElem?_eq_none (by omega:args.length≤i)]
             simp only [this];exact .undef _
         · by_cases e:i<args.length
           · obtain ⟨d,v,h1,h2,h3,h4⟩:=hg i e
             simp only [h3];exact (hv.2 i d v h1 h2).2
           · have:enterE args i = .undef:=by simp [enterE,List.getElem?_eq_none (by omega:args.length≤i)]
             simp only [this];rfl
       unfold endC at hcall;have fin:∀ (st:St) (x:X) (e:Exit) (a':Act) (w':World),(x = .norm∨x = .ret)→(resultsD cx.P st fn.results.toList).map (fun d=>(d,st.h))=some (d,h')→XQ [] ⟨fn.ntmps,enterE args,h⟩ m w x st e a' w' →
           bodyPost P fn (fun e w'=>Ends m w h d h' e w') e a' w':=by
         intro st x e a' w' hx hres hq;have hq2:(x = .norm∧e = .normal∨x = .ret∧e = .ret)∧∃ m',SR [] m' st a' w'∧Left m w ⟨fn.ntmps,enterE args,h⟩ m' w' st:=by
           rcases hx with rfl|rfl
           · exact ⟨.inl ⟨rfl,hq.1⟩,hq.2⟩
           · exact ⟨.inr ⟨rfl,hq.1⟩,hq.2⟩
         obtain ⟨he,m',hsr',hl⟩:=hq2;obtain ⟨d0,hd0,he0⟩:=Option.map_eq_some_iff.1 hres;cases he0;rw [hP] at hd0;obtain ⟨v,hv1,hv2,hv3⟩:=results_sound hsr' hd0;have hE:Eff m w h d v w' st.h m':=⟨hsr'.hr,hv2,hl.ext,hv3,hl.next,hl.marks⟩
         have hend:Ends m w h d st.h (.returned v) w':=(Ends.ret hv2.noPan).2 ⟨v,m',rfl,hE⟩;rcases he with ⟨_,rfl⟩|⟨_,rfl⟩
         · exact ⟨hsr'.defers,v,hv1,hend⟩
         · exact ⟨hsr'.defers,v,hv1,hend⟩
       split at hcall
       · rename_i st hcode
         exact Code.wp_mono (fun e a' w' hq=>fin st .norm e a' w' (.inl rfl) hcall hq) (code_sound (cx:=cx.at k) hP hmix hc hit c _ _ _ m w _ hok hcode hsr)
       · rename_i st hcode
         exact Code.wp_mono (fun e a' w' hq=>fin st .ret e a' w' (.inr rfl) hcall hq) (code_sound (cx:=cx.at k) hP hmix hc hit c _ _ _ m w _ hok hcode hsr)
       · rename_i y st hcode
         cases hcall;refine Code.wp_mono (fun e a' w' hq=>?_) (code_sound (cx:=cx.at k) hP hmix hc hit c _ _ _ m w _ hok hcode hsr)
         obtain ⟨v,m',rfl,hp⟩:=hq;exact ⟨hp.sr.defers,v,m',rfl,hp.sr.hr,hp.tr,hp.left.ext,hp.left.next,hp.left.marks⟩
       · cases hcall
     · cases hok
   · cases hcall
 · cases hcall
def PrimOK (P:Program)(prim:FuncId→Option ACall):Prop:=∀ (k:FuncId) (g:ACall),prim k=some g→∀ (args:List D) (h:H) (d:D) (h':H) (m:M) (w:World) (vs:Array Value),HR m w h→AV m w h.next args vs→g k args h=some (d,h') →
 Calls P k vs w fun e w'=>∃ v m',e = .returned v∧Eff m w h d v w' h' m'
theorem Ends.of_ret {m:M}{w:World}{h:H}{d:D}{h':H}{e:Ending}{w':World}(hE:∃ v m',e = .returned v∧Eff m w h d v w' h' m'):Ends m w h d h' e w' :=
 (Ends.ret (let ⟨_,_,_,hE⟩:=hE; hE.vr.noPan)).2 hE
theorem callN_sound {cx:Cx}{prim:FuncId→Option ACall}(hP:cx.P=P)(hmix:P.follows .mixedOrders=true)(hprim:PrimOK P prim):∀ n,CallOK P (callN cx prim n)
 | 0=>fun k args h d h' m w vs _ _ hc=>by cases hc
 | n+1=>fun k args h d h' m w vs hr hv hc=>by
  unfold callN at hc;split at hc
  · rename_i g hg
    exact (hprim k g hg args h d h' m w vs hr hv hc).mono fun e w' hE=>Ends.of_ret hE
  · exact func_sound hP hmix (callN_sound hP hmix hprim n) (iter_ok n) k args h d h' m w vs hr hv hc
end
end Vai

namespace Vai
open Go
inductive Sh where
 | bool
 | int (k:IntKind)
 | str
 | slice (e:Sh)
 | agg (ss:List Sh)
def Sh.n:Sh→Nat
 | .agg ss=>ns ss
 | _=>1
where ns:List Sh→Nat
 | []=>0
 | s::ss=>s.n+ns ss
def Sh.isAgg:Sh→Bool
 | .agg _=>true
 | _=>false
def Sh.hasL:Sh→List T→Prop
 | .bool,l=>∃ b,l=[.bool b]
 | .int k,l=>∃ n,l=[.int k n]∧k.min≤n∧n≤k.max
 | .str,l=>∃ s,l=[.str s]
 | .slice e,l=>l=[.nilSlice]∨∃ es,l=[.slice es]∧∀ x∈es,∃ l',e.hasL l'∧(if e.isAgg then x = .agg l' else l'=[x])
 | .agg ss,l=>hasLs ss l
where hasLs:List Sh→List T→Prop
 | [],l=>l=[]
 | s::ss,l=>∃ l1 l2,l=l1++l2∧s.hasL l1∧hasLs ss l2
def Sh.has (s:Sh)(x:T):Prop:=∃ l,s.hasL l∧(if s.isAgg then x = .agg l else l=[x])
def T.bulk:T→Nat
 | .str s=>s.size+1
 | .agg cs=>bulks cs
 | .slice es=>bulks es+1
 | .iface _ x=>T.bulk x+1
 | _=>1
where bulks:List T→Nat
 | []=>0
 | x::xs=>T.bulk x+bulks xs
theorem bulks_append (a b:List T):T.bulk.bulks (a++b)=T.bulk.bulks a+T.bulk.bulks b:=by
 induction a with
 | nil=>simp [T.bulk.bulks]
 | cons x a ih=>simp only [List.cons_append,T.bulk.bulks,ih]; omega
def fieldsSh (P:Program)(f:TypeId→Option Sh):Nat→List Field→Option (List Sh × Nat)
 | off,[]=>some ([],off)
 | off,x::xs=>match f x.type with
  | some s=>if x.offset=off∧s.n=P.cellsOf x.type then match fieldsSh P f (off+s.n) xs with
    | some (ss,e)=>some (s::ss,e)
    | none=>none
   else none
  | none=>none
def shapeOf (P:Program):Nat→TypeId→Option Sh
 | 0,_=>none
 | n+1,t=>match P.underlying t with
  | some .bool=>some .bool
  | some (.int k)=>some (.int k)
  | some .string=>some .str
  | some (.slice e)=>match shapeOf P n e with
   | some s=>if s.n=P.cellsOf e∧0<s.n then some (.slice s) else none
   | none=>none
  | some (.struct fs)=>match fieldsSh P (shapeOf P n) 0 fs.toList with
   | some (ss,e)=>if e=P.cellsOf t then some (.agg ss) else none
   | none=>none
  | some (.array k e)=>match shapeOf P n e with
   | some s=>if s.n=P.cellsOf e∧k*s.n=P.cellsOf t then some (.agg (List.replicate k s)) else none
   | none=>none
  | _=>none
structure Bulk (H:Type) where
 b:DataW H→Nat
 bs:List (DataW H)→Nat
 str:∀ s,s.length+1≤b (.lit (.string s))
 lit:∀ l,1≤b (.lit l)
 nil:1≤b .nil
 slice:∀ e s,bs e+1≤b (.slice e s)
 agg:∀ p,bs p≤b (.agg p)
 cons:∀ d r,bs (d::r)=b d+bs r
section
variable {H:Type}{enc:TypeId × Value→H}{P:Program}{w:World}{base:Nat}{sp:Nat→Bool}{held:Bool}
def TL (w:World)(l:List T)(cs:List Value):Prop:=l.length=cs.length∧∀ (i:Nat) (c:T) (v:Value),l[i]?=some c→cs[i]?=some v→TR w (fun _=>False) c v∧v.oneCell'=true
theorem TL.one {c:T}{v:Value}(h:TR w (fun _=>False) c v)(ho:v.oneCell'=true):TL w [c] [v]:=by
 refine ⟨rfl,fun i c' v' hc hv=>?_⟩
 cases i with
 | zero=>simp at hc hv; subst hc; subst hv; exact ⟨h,ho⟩
 | succ i=>simp at hc
theorem TL.append {l1 l2:List T}{c1 c2:List Value}(h1:TL w l1 c1)(h2:TL w l2 c2):TL w (l1++l2) (c1++c2):=by
 refine ⟨by simp [h1.1,h2.1],fun i c v hc hv=>?_⟩
 rw [List.getElem?_append] at hc hv;rw [h1.1] at hc;split at hc
 · rename_i hi; rw [if_pos hi] at hv; exact h1.2 i c v hc hv
 · rename_i hi; rw [if_neg hi] at hv; exact h2.2 _ c v hc hv
theorem hasL_one {s:Sh}(hs:s.isAgg=false){l:List T}(h:s.hasL l):∃ x,l=[x]∧x.cells=[x]:=by
 cases s with
 | bool=>obtain ⟨b,rfl⟩:=h; exact ⟨_,rfl,rfl⟩
 | int k=>obtain ⟨n,rfl,_⟩:=h; exact ⟨_,rfl,rfl⟩
 | str=>obtain ⟨s,rfl⟩:=h; exact ⟨_,rfl,rfl⟩
 | slice e =>
  rcases h with rfl|⟨es,rfl,_⟩
  · exact ⟨_,rfl,rfl⟩
  · exact ⟨_,rfl,rfl⟩
 | agg ss=>cases hs
def Lifts (B:Bulk H)(w:World)(s:Sh)(cs:List Value)(d:DataW H):Prop:=∃ l:List T,TL w l cs∧cs.length=s.n∧s.hasL l∧T.bulk.bulks l≤B.b d
theorem fields_lift {B:Bulk H}{f:TypeId→Option Sh}{cs:List Value}:∀ (fs:List Field) (off:Nat) (ss:List Sh) (e:Nat) (ds:List (DataW H)),fieldsSh P f off fs=some (ss,e)→off≤cs.length→e=cs.length→ds.length=fs.length →
  (∀ (i:Nat) (x:Field) (s:Sh) (d:DataW H),fs[i]?=some x→f x.type=some s→ds[i]?=some d→Lifts B w s ((cs.drop x.offset).take (P.cellsOf x.type)) d) →
  ∃ l:List T,TL w l (cs.drop off)∧(cs.drop off).length=Sh.n.ns ss∧Sh.hasL.hasLs ss l∧T.bulk.bulks l≤B.bs ds
 | [],off,ss,e,ds,h,hle,he,hl,_=>by
  simp only [fieldsSh,Option.some.injEq,Prod.mk.injEq] at h;obtain ⟨rfl,rfl⟩:=h;subst he;refine ⟨[],by simp [TL],by simp [Sh.n.ns],rfl,by simp [T.bulk.bulks]⟩
 | x::xs,off,ss,e,ds,h,hle,he,hl,hf=>by
  simp only [fieldsSh] at h;split at h
  · rename_i s hs
    split at h
    · rename_i hc
      split at h
      · rename_i ss' e' hrest
        simp only [Option.some.injEq,Prod.mk.injEq] at h;obtain ⟨rfl,rfl⟩:=h
        match ds,hl with
        | d::ds,hl =>
         obtain ⟨l1,a1,a2,a3,a4⟩:=hf 0 x s d rfl hs rfl;have hn:s.n=P.cellsOf x.type:=hc.2;have hlen:off+s.n≤cs.length:=by
           rw [hc.1] at a2;simp only [List.length_take,List.length_drop,←hn] at a2;omega
         obtain ⟨l2,b1,b2,b3,b4⟩:=fields_lift xs (off+s.n) ss' e' ds hrest hlen he (by simpa using hl) fun i y s d hy hsy hd=>hf (i+1) y s d (by simpa using hy) hsy (by simpa using hd)
         have hsplit:cs.drop off=(cs.drop x.offset).take (P.cellsOf x.type)++cs.drop (off+s.n):=by
           rw [hc.1,←hn,←List.drop_drop];exact (List.take_append_drop s.n (cs.drop off)).symm
         refine ⟨l1++l2,?_,?_,⟨l1,l2,rfl,a3,b3⟩,?_⟩
         · rw [hsplit]; exact a1.append b1
         · rw [hsplit,List.length_append,a2,b2]; rfl
         · rw [bulks_append,B.cons]; omega
      · cases h
    · cases h
  · cases h
theorem rep_lift {B:Bulk H}{s:Sh}{cs:List Value}:∀ (k i0:Nat) (ds:List (DataW H)),ds.length=k→cs.length=(i0+k)*s.n→(∀ (i:Nat) (d:DataW H),ds[i]?=some d→Lifts B w s ((cs.drop ((i0+i)*s.n)).take s.n) d) →
  ∃ l:List T,TL w l (cs.drop (i0*s.n))∧(cs.drop (i0*s.n)).length=Sh.n.ns (List.replicate k s)∧Sh.hasL.hasLs (List.replicate k s) l∧T.bulk.bulks l≤B.bs ds
 | 0,i0,ds,hl,hc,_=>by
  have:cs.drop (i0*s.n)=[]:=List.drop_eq_nil_of_le (by simp at hc; omega)
  rw [this];exact ⟨[],by simp [TL],by simp [Sh.n.ns],rfl,by simp [T.bulk.bulks]⟩
 | k+1,i0,d::ds,hl,hc,hf=>by
  obtain ⟨l1,a1,a2,a3,a4⟩:=hf 0 d rfl;obtain ⟨l2,b1,b2,b3,b4⟩:=rep_lift k (i0+1) ds (by simpa using hl) (by rw [hc]; congr 1; omega) fun i d hd=>by
    have:=hf (i+1) d (by simpa using hd)
    have e:i0+(i+1)=i0+1+i:=by omega
    rwa [e] at this
  have hsplit:cs.drop (i0*s.n)=(cs.drop ((i0+0)*s.n)).take s.n++cs.drop ((i0+1)*s.n):=by
    rw [Nat.add_zero,Nat.add_mul,Nat.one_mul,←List.drop_drop];exact (List.take_append_drop s.n (cs.drop (i0*s.n))).symm
  refine ⟨l1++l2,?_,?_,⟨l1,l2,rfl,a3,b3⟩,?_⟩
  · rw [hsplit]; exact a1.append b1
  · rw [hsplit,List.length_append,a2,b2]; rfl
  · rw [bulks_append,B.cons]; omega
 | k+1,i0,[],hl,hc,hf=>by simp at hl
theorem lift (B:Bulk H):∀ (n:Nat) (t:TypeId) (s:Sh),shapeOf P n t=some s→∀ (m:Nat) (cs:List Value) (x:DataW H × List MemPlace),DataW.trod enc P w base sp held m t cs=some x→Lifts B w s cs x.1
 | 0,t,s,h=>by cases h
 | n+1,t,s,h=>by
  intro m cs x hx;simp only [shapeOf] at h;split at h
  · rename_i hu
    cases h;obtain ⟨b,rfl,rfl⟩:=DataW.trod_bool hu hx;exact ⟨[.bool b],.one (.bool b) rfl,rfl,⟨b,rfl⟩,by simpa [T.bulk.bulks,T.bulk] using B.lit _⟩
  · rename_i k hu
    cases h;obtain ⟨v,rfl,rfl,hw⟩:=DataW.trod_int hu hx;simp only [Lit.wf,Bool.and_eq_true,decide_eq_true_eq] at hw;exact ⟨[.int k v],.one (.int k v) rfl,rfl,⟨v,rfl,hw⟩,by simpa [T.bulk.bulks,T.bulk] using B.lit _⟩
  · rename_i hu
    cases h;obtain ⟨v,rfl,rfl,hw⟩:=DataW.trod_string hu hx;refine ⟨[.str v],.one (.str v) rfl,rfl,⟨v,rfl⟩,?_⟩;have:=B.str v.data.toList;simpa [T.bulk.bulks,T.bulk] using this
  · rename_i e hu
    split at h
    · rename_i se hse
      split at h
      · rename_i hc
        cases h;rcases DataW.trod_slice hu hx with ⟨rfl,rfl⟩|⟨a,len,cap,elems,rest,m',_,rfl,rfl,_,hlc,_,hel,hg,_⟩
        · exact ⟨[.nilSlice],.one .nilSlice rfl,rfl,.inl rfl,by simpa [T.bulk.bulks,T.bulk] using B.nil⟩
        · -- each element
          have each:∀ i,i<len→∃ (cs':List Value) (y:DataW H × List MemPlace),elems[i]?=some y∧w.cells? base (a.add (i*P.cellsOf e)) (P.cellsOf e)=some cs'∧Lifts B w se cs' y.1:=by
            intro i hi;have h1:=hg i hi;have hy:elems[i]?=some (elems[i]'(by omega)):=List.getElem?_eq_getElem _
            rw [hy] at h1
            cases hcs:w.cells? base (a.add (i*P.cellsOf e)) (P.cellsOf e) with
            | none=>rw [hcs] at h1; cases h1
            | some cs' =>
              rw [hcs] at h1;exact ⟨cs',_,hy,rfl,lift B n e se hse m' cs' _ h1⟩
          -- the trees
          have trees:∀ (k:Nat) (ys:List (DataW H × List MemPlace)) (i0:Nat),(∀ j,ys[j]? = elems[i0+j]?)→i0+ys.length=len →
              ∃ (es:List T),es.length=ys.length∧T.bulk.bulks es≤B.bs (ys.map (·.1))∧∀ (j:Nat) (x:T),es[j]?=some x→∃ (l cs':List _),se.hasL l∧(if se.isAgg then x = .agg l else l=[x])∧x.cells=l∧TL w l cs'∧cs'.length=se.n∧w.cells? base (a.add ((i0+j)*P.cellsOf e)) (P.cellsOf e)=some cs':=by
            intro _ ys
            induction ys with
            | nil=>intro i0 _ _; exact ⟨[],rfl,by simp [T.bulk.bulks],fun j x hx=>by simp at hx⟩
            | cons y ys ih =>
              intro i0 hys hlen;obtain ⟨cs',y',hy',hcs',l,q1,q2,q3,q4⟩:=each i0 (by simp at hlen; omega)
              have hyy:y=y':=by
                have:=hys 0;simp only [List.getElem?_cons_zero,Nat.add_zero,hy'] at this;exact Option.some.inj this
              subst hyy;obtain ⟨es,r1,r2,r3⟩:=ih (i0+1) (fun j=>by
                have:=hys (j+1);simp only [List.getElem?_cons_succ] at this;rw [this]; congr 1; omega) (by simp at hlen; omega)
              have hx:∃ x:T,(if se.isAgg then x = .agg l else l=[x])∧x.cells=l∧x.bulk=T.bulk.bulks l:=by
                cases hag:se.isAgg with
                | true=>exact ⟨.agg l,by simp,rfl,rfl⟩
                | false =>
                 obtain ⟨x,rfl,hxc⟩:=hasL_one hag q3;exact ⟨x,by simp,hxc,by simp [T.bulk.bulks]⟩
              obtain ⟨x,hx1,hx2,hx3⟩:=hx;refine ⟨x::es,by simp [r1],?_,fun j z hz=>?_⟩
              · simp only [T.bulk.bulks,List.map_cons,B.cons]; omega
              · cases j with
                | zero =>
                 simp only [List.getElem?_cons_zero,Option.some.injEq] at hz;subst hz;exact ⟨l,cs',q3,hx1,hx2,q1,q2,hcs'⟩
                | succ j =>
                 obtain ⟨l',c',u1,u2,u3,u4,u5,u6⟩:=r3 j z (by simpa using hz)
                 refine ⟨l',c',u1,u2,u3,u4,u5,?_⟩;have e:i0+(j+1)=i0+1+j:=by omega
                 rw [e]; exact u6
          obtain ⟨es,r1,r2,r3⟩:=trees 0 elems 0 (fun j=>by simp) (by omega)
          have hes:∀ (j:Nat) (x:T),es[j]?=some x→∃ (l cs':List _),se.hasL l∧(if se.isAgg then x = .agg l else l=[x])∧x.cells=l∧TL w l cs'∧cs'.length=se.n∧w.cells? base (a.add (j*P.cellsOf e)) (P.cellsOf e)=some cs':=fun j x hx=>by
            obtain ⟨l',c',u1,u2,u3,u4,u5,u6⟩:=r3 j x hx;exact ⟨l',c',u1,u2,u3,u4,u5,by simpa using u6⟩
          refine ⟨[.slice es],.one ?_ rfl,rfl,.inr ⟨es,rfl,fun x hx=>?_⟩,?_⟩
          · refine .slice (s:=se.n) (us:=fun i j=>((w.cells? base (a.add (i*P.cellsOf e)) (P.cellsOf e)).getD []).getD j undef) (by omega) hlc (fun i x hi=>?_) (fun i j x c hi hc'=>?_) (fun i j x c hi hc'=>?_)
            · obtain ⟨l,cs',u1,u2,u3,u4,u5,u6⟩:=hes i x hi
              rw [u3,u4.1,u5]
            · obtain ⟨l,cs',u1,u2,u3,u4,u5,u6⟩:=hes i x hi
              rw [u3] at hc';have hj:j<cs'.length:=by rw [←u4.1]; exact (List.getElem?_eq_some_iff.1 hc').1
              simp only [u6,Option.getD_some];have hv:cs'.getD j undef=cs'[j]:=by simp [hj]
              rw [hv];obtain ⟨v1,v2,v3⟩:=World.cells?_some u6;refine ⟨fun h=>h.elim,?_,(u4.2 j c cs'[j] hc' (by simp [hj])).2⟩
              rw [hc.1,←Addr.add_add,v3 j (by omega)]
              simp [hj]
            · obtain ⟨l,cs',u1,u2,u3,u4,u5,u6⟩:=hes i x hi
              rw [u3] at hc';have hj:j<cs'.length:=by rw [←u4.1]; exact (List.getElem?_eq_some_iff.1 hc').1
              simp only [u6,Option.getD_some];have hv:cs'.getD j undef=cs'[j]:=by simp [hj]
              rw [hv];exact (u4.2 j c cs'[j] hc' (by simp [hj])).1
          · obtain ⟨j,hj⟩:=List.getElem?_of_mem hx
            obtain ⟨l,cs',u1,u2,u3,u4,u5,u6⟩:=hes j x hj;exact ⟨l,u1,u2⟩
          · have:=B.slice (elems.map (·.1)) (rest.map (·.1))
            simp only [T.bulk.bulks,T.bulk];omega
      · cases h
    · cases h
  · rename_i fs hu
    split at h
    · rename_i ss e hss
      split at h
      · rename_i he
        cases h;obtain ⟨xs,m',_,rfl,hcl,hxl,hg⟩:=DataW.trod_struct hu hx;obtain ⟨l,q1,q2,q3,q4⟩:=fields_lift (w:=w) (B:=B) (cs:=cs) fs.toList 0 ss e (xs.map (·.1)) hss (Nat.zero_le _) (by omega) (by simpa using hxl) fun i y s d hy hs hd=>by
          simp only [List.getElem?_map,Option.map_eq_some_iff] at hd;obtain ⟨z,hz,rfl⟩:=hd;have:=hg i y (by simpa using hy)
          rw [hz] at this;exact lift B n _ s hs m' _ _ this
        simp only [List.drop_zero] at q1 q2;exact ⟨l,q1,q2,q3,Nat.le_trans q4 (B.agg _)⟩
      · cases h
    · cases h
  · rename_i k e hu
    split at h
    · rename_i se hse
      split at h
      · rename_i hc
        cases h;obtain ⟨xs,m',_,rfl,hcl,hxl,hg⟩:=DataW.trod_array hu hx;obtain ⟨l,q1,q2,q3,q4⟩:=rep_lift (w:=w) (B:=B) (s:=se) (cs:=cs) k 0 (xs.map (·.1)) (by simpa using hxl) (by rw [Nat.zero_add,hc.2]; exact hcl) fun i d hd=>by
          simp only [List.getElem?_map,Option.map_eq_some_iff] at hd;obtain ⟨z,hz,rfl⟩:=hd;have hi:i<k:=by rw [←hxl]; exact (List.getElem?_eq_some_iff.1 hz).1
          have:=hg i hi;rw [hz,←hc.1] at this;rw [Nat.zero_add];exact lift B n _ se hse m' _ _ this
        simp only [Nat.zero_mul,List.drop_zero] at q1 q2;exact ⟨l,q1,q2,q3,Nat.le_trans q4 (B.agg _)⟩
      · cases h
    · cases h
  · cases h
end
end Vai

namespace Vai
open Go
open Go.RowKit (Below)
variable [Gl]
def hasAll:List Sh→List T→Prop
 | [],l=>l=[]
 | s::ss,l=>∃ x xs,l=x::xs∧s.has x∧hasAll ss xs
section
variable {H:Type}{enc:TypeId × Value→H}{P:Program}{w:World}{base:Nat}{sp:Nat→Bool}{held:Bool}
theorem arg_lift (B:Bulk H){n:Nat}{t:TypeId}{s:Sh}{v:Value}{d:DataW H}{ps:List MemPlace}{b:Nat}(hs:shapeOf P n t=some s)(hok:Value.okWide P w .any b t v)(h:DataW.Trod enc P w base sp held t v d ps) :
  ∃ x:T,s.has x∧TR w (fun _=>False) x v∧x.bulk≤B.b d:=by
 obtain ⟨m,hm⟩:=h;obtain ⟨l,h1,h2,h3,h4⟩:=lift B n t s hs m _ _ hm
 cases hag:s.isAgg with
 | true =>
  have hv:∃ cs,v = .agg cs:=by
   cases n with
   | zero=>cases hs
   | succ n =>
    simp only [shapeOf] at hs;unfold Value.okWide at hok;split at hs
    · cases hs; cases hag
    · cases hs; cases hag
    · cases hs; cases hag
    · repeat' split at hs
      all_goals cases hs
      cases hag
    · rename_i hu; rw [hu] at hok; obtain ⟨cs,h,_⟩:=hok; exact ⟨cs,h⟩
    · rename_i hu; rw [hu] at hok; obtain ⟨cs,h,_⟩:=hok; exact ⟨cs,h⟩
    · cases hs
  obtain ⟨cs,rfl⟩:=hv;simp only [Value.cells] at h1;refine ⟨.agg l,⟨l,h3,by simp [hag]⟩,.agg (by simpa using h1.1) (fun i v hv=>?_) (fun i c v hc hv=>(h1.2 i c v hc (by simpa using hv)).1),h4⟩
  have hi:i<l.length:=by
   have:=(Array.getElem?_eq_some_iff.1 hv).1;have h5:=h1.1;simp at h5;omega
  exact (h1.2 i l[i] v (by simp [hi]) (by simpa using hv)).2
 | false =>
  obtain ⟨x,rfl,hx⟩:=hasL_one hag h3;have hv:v.cells = #[v]:=by
   cases n with
   | zero=>cases hs
   | succ n =>
    cases v with
    | agg cs =>
      exfalso;simp only [shapeOf] at hs;unfold Value.okWide at hok;split at hs
      · rename_i hu; simp [hu,Cell.okWide,Cell.ok] at hok
      · rename_i hu; simp [hu,Cell.okWide,Cell.ok] at hok
      · rename_i hu; simp [hu,Cell.okWide,Cell.ok] at hok
      · rename_i hu; simp [hu,Cell.okWide,Cell.ok] at hok
      · repeat' split at hs
        all_goals cases hs
        cases hag
      · repeat' split at hs
        all_goals cases hs
        cases hag
      · cases hs
    | _=>rfl
  rw [hv] at h1;refine ⟨x,⟨[x],h3,by simp [hag]⟩,(h1.2 0 x v rfl rfl).1,by simpa [T.bulk.bulks] using h4⟩
theorem args_lift (B:Bulk H){n b:Nat}:∀ {ts:List TypeId} {shs:List Sh} {vs:List Value} {ds:List (DataW H)} {ps:List MemPlace},allM (shapeOf P n) ts=some shs→DataW.TrodAll enc P w base sp held ts vs ds ps →
  (∀ (j:Nat) (t:TypeId) (v:Value),ts[j]?=some t→vs[j]?=some v→Value.okWide P w .any b t v) →
  ∃ xs:List T,xs.length=vs.length∧hasAll shs xs∧(∀ (i:Nat) (x:T) (v:Value),xs[i]?=some x→vs[i]?=some v→TR w (fun _=>False) x v)∧T.bulk.bulks xs≤B.bs ds
 | [],shs,vs,ds,ps,hs,h,hok=>by
  simp only [allM,Option.some.injEq] at hs;subst hs;obtain ⟨rfl,rfl,rfl⟩:=ChangeShapes.trodAll_nil h;exact ⟨[],rfl,rfl,fun i x v hx=>by simp at hx,by simp [T.bulk.bulks]⟩
 | t::ts,shs,vs,ds,ps,hs,h,hok=>by
  obtain ⟨v,vs',d,ds',p,q,rfl,rfl,rfl,h1,h2⟩:=ChangeShapes.trodAll_cons h;simp only [allM] at hs;split at hs
  · cases hs
  · rename_i s hst
    split at hs
    · cases hs
    · rename_i ss hss
      cases hs;obtain ⟨x,a1,a2,a3⟩:=arg_lift B hst (hok 0 t v rfl rfl) h1;obtain ⟨xs,b1,b2,b3,b4⟩:=args_lift B hss h2 fun j t v ht hv=>hok (j+1) t v (by simpa using ht) (by simpa using hv)
      refine ⟨x::xs,by simp [b1],⟨x,xs,rfl,a1,b2⟩,fun i y v hy hv=>?_,?_⟩
      · cases i with
        | zero=>simp at hy hv; subst hy; subst hv; exact a2
        | succ i=>exact b3 i y v (by simpa using hy) (by simpa using hv)
      · simp only [T.bulk.bulks,B.cons]; omega
theorem trodAll_stays {W W':World}{sp':Nat→Bool}(hl:laidOutB P=true):∀ {ts:List TypeId} {vs:List Value} {ds:List (DataW H)} {ps:List MemPlace},(ts.all fun t=>P.readableRec t&&decide (t<P.types.size))=true →
  DataW.TrodAll enc P W base (fun _=>true) true ts vs ds ps→(∀ p∈ps,W.sameAt W' p)→(∀ p∈ps,sp' p.block=true)→DataW.TrodAll enc P W' base sp' true ts vs ds ps
 | [],vs,ds,ps,_,h,_,_=>by
  obtain ⟨rfl,rfl,rfl⟩:=ChangeShapes.trodAll_nil h;exact rfl
 | t::ts,vs,ds,ps,hr,h,h1,h2=>by
  obtain ⟨v,vs',d,ds',p,q,rfl,rfl,rfl,h3,h4⟩:=ChangeShapes.trodAll_cons h;simp only [List.all_cons,Bool.and_eq_true,decide_eq_true_eq] at hr;exact ⟨p,q,WideElems.Trod_stays hl hr.1.1 hr.1.2 h3 (fun x hx=>h1 x (List.mem_append_left _ hx)) (fun x hx=>h2 x (List.mem_append_left _ hx)),
   trodAll_stays hl (by simpa using hr.2) h4 (fun x hx=>h1 x (List.mem_append_right _ hx)) (fun x hx=>h2 x (List.mem_append_right _ hx)),rfl⟩
theorem kept_of_below {W W':World}(h:Below W.heap.size W W')(may:MemPlace→Prop):W.keptBut W' may:=by
 refine ⟨h.os,h.output,fun i hi=>?_⟩
 rw [h.block i hi]
 cases W.heap[i]? with
 | none=>rfl
 | some o =>
  cases o with
  | cells c t fr=>exact ⟨rfl,rfl,rfl,fun _ _=>rfl⟩
  | map es clock=>exact .inr ⟨rfl,rfl⟩
  | _=>rfl
def Answers (cx:Cx)(prim:FuncId→Option ACall)(k:FuncId)(shs:List Sh)(bound:Nat):Prop:=∀ xs:List T,hasAll shs xs→T.bulk.bulks xs≤bound→∃ n h',callN cx prim n k (xs.map .t) .empty=some (.t (.bool true),h')
theorem law_contract {cx:Cx}{prim:FuncId→Option ACall}{k:FuncId}{f:Func}{s:ChangeSpec}{tb:TypeId}{shs:List Sh}{n bound b:Nat}(hP:cx.P=P)(hmix:P.follows .mixedOrders=true)(hprim:PrimOK P prim)
   (hlaid:laidOutB P=true) (hread:(f.params.toList.all fun t=>P.readableRec t&&decide (t<P.types.size))=true) (hshape:allM (shapeOf P n) f.params.toList=some shs) (hres:f.resultTypes = #[tb]) (htb:P.underlying tb=some .bool)
   (hvars:s.vars=[]) (hspec:∀ ds:List (DataW H),ds.length=f.params.size→s.fn H ds={ results:=[.lit (.bool true)],args:=ds }) (B:Bulk H) (hlaw:Answers cx prim k shs bound)
   {W:World} {args:Array Value} {ds gs:List (DataW H)} {before:List MemPlace}
   (hval:∀ (j:Nat) t v,f.params[j]?=some t→args[j]?=some v→Value.okWide P W .any b t v) (hW:DataW.Whole enc P f.params.toList s.vars false W args.toList ds gs before) (hsmall:B.bs (ds++gs)≤bound) (hG:Gl.ok W∧∀ k,Gl.blk k→k<W.heap.size) :
   Calls P k args W fun e W'=>∃ v,e = .returned v∧s.post enc P f false true false false W args v W':=by
 have hW':=hW;obtain ⟨p,q,hA,hV,rfl,hfz,hnd⟩:=hW;rw [hvars] at hV;have hgq:gs=[]∧q=[]:=by
   cases gs with
   | nil=>exact ⟨rfl,hV⟩
   | cons g gs=>exact hV.elim
 obtain ⟨rfl,rfl⟩:=hgq;have hA0:DataW.TrodAll enc P W 0 (fun _=>true) true f.params.toList args.toList ds p:=hA
 obtain ⟨xs,h1,h2,h3,h4⟩:=args_lift B hshape hA0 fun j t v ht hv=>hval j t v (by simpa using ht) (by simpa using hv)
 have hdl:ds.length=f.params.size:=by
   have key:∀ {ts:List TypeId} {vs:List Value} {ds:List (DataW H)} {ps:List MemPlace},DataW.TrodAll enc P W 0 (fun _=>true) true ts vs ds ps→ds.length=ts.length:=by
     intro ts
     induction ts with
     | nil=>intro vs ds ps h; obtain ⟨rfl,rfl,rfl⟩:=ChangeShapes.trodAll_nil h; rfl
     | cons t ts ih=>intro vs ds ps h; obtain ⟨v,vs',d,ds',p,q,rfl,rfl,rfl,_,h2⟩:=ChangeShapes.trodAll_cons h; simp [ih h2]
   simpa using key hA0
 obtain ⟨N,h',hcall⟩:=hlaw xs h2 (Nat.le_trans h4 (by simpa using hsmall))
 have hr0:HR ⟨fun _=>none,fun _=>False⟩ W Vai.H.empty :=
   ⟨fun id o ho=>by simp [Vai.H.empty] at ho,fun id x hx=>by simp at hx,fun id id' x x' hx=>by simp at hx,fun id x hx=>by simp at hx,fun k hk=>hk.elim,fun id o ho=>by simp [Vai.H.empty] at ho,fun mk hmk=>by simp [Vai.H.empty] at hmk,hG.1,fun k hk=>⟨hG.2 k hk,fun hb=>hb.elim (fun ⟨i,y,hy,_⟩=>by cases hy) fun h=>h.elim⟩⟩
 refine (callN_sound hP hmix hprim N k _ _ _ _ _ W args hr0 ⟨by simpa using h1,fun i d v hd hv=>?_⟩ hcall).mono fun e W' ⟨v,m',he,hE⟩=>?_
 · simp only [List.getElem?_map,Option.map_eq_some_iff] at hd
   obtain ⟨x,hx,rfl⟩:=hd;refine ⟨.t ((h3 i x v hx (by simpa using hv)).mono (fun _ _ _=>rfl) fun k _ hk=>?_),rfl⟩
   rcases hk with ⟨_,_,hn,_⟩|hk
   · simp at hn
   · exact hk
 · have hb:Below W.heap.size W W':=hE.ext.toBelow fun k ⟨_,_,hn,_⟩=>by simp at hn
   have hv:=hE.vr
   cases hv with
   | t hx =>
   cases hx;have hlt:=hW'.lt;refine ⟨_,he,ds,[],p ++ [],[],p,[],hW',?_,?_,?_,kept_of_below hb _,fun h=>by cases h⟩
   · rw [List.append_nil,hspec ds hdl,hres]
     exact trodAll_cons_mk (Go.RowKit.shut_bool htb true) ChangeShapes.trodAll_mk0
   · rw [List.append_nil,hspec ds hdl]
     exact trodAll_stays hlaid hread hA0 (fun x hx=>hb.same (hlt x (by simpa using hx))) (fun x hx=>by simpa using hlt x (by simpa using hx))
   · rw [List.append_nil,hspec ds hdl,hvars]
     exact rfl
end
end Vai
