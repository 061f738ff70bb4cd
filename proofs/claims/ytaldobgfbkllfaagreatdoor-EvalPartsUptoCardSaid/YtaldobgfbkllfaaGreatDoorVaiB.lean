import Derived.Test.YtaldobgfbkllfaaGreatDoorVaiA
import Derived.Laws.MakeOwn
set_option linter.unusedSimpArgs false
set_option linter.unusedVariables false
set_option linter.unusedSectionVars false
namespace Vai
open Go
open Go.RowKit (Below)
variable [Gl]
section
variable {P:Program}
theorem scalarT_tr {w:World}{S:Nat→Prop}{v:Value}{x:T}(h:scalarT v=some x):TR w S x v∧v.oneCell'=true∧x.cells=[x]∧v.cells = #[v]:=by
 unfold scalarT at h;split at h<;>first
  | (simp only [Option.some.injEq] at h; subst h; exact ⟨by constructor,rfl,rfl,rfl⟩)
  | cases h
theorem ofVal_tr {w:World}{S:Nat→Prop}{v:Value}{x:T}(h:T.ofVal v=some x):TR w S x v:=by
 unfold T.ofVal at h;split at h
 · rename_i cs
   obtain ⟨ts,hts,rfl⟩:=Option.map_eq_some_iff.1 h;have hl:=(allM_some hts).1;refine .agg (by simpa using hl.symm) (fun i v hv=>?_) fun i c v hc hv=>?_
   · obtain ⟨y,_,hy⟩:=allM_get' hts (i:=i) (a:=v) (by simpa using hv)
     exact (scalarT_tr (w:=w) (S:=S) hy).2.1
   · obtain ⟨u,hu,hcu⟩:=allM_get hts hc
     have:u=v:=by
      have h1:cs[i]?=some u:=by simpa using hu
      rw [h1] at hv;exact Option.some.inj hv
     subst this;exact (scalarT_tr hcu).1
 · exact (scalarT_tr h).1
theorem ofVal_vr {m:M}{w:World}{v:Value}{x:T}(h:T.ofVal v=some x):VR m w (.t x) v:=.t (ofVal_tr h)
theorem VR.cv {m:M}{w:World}{d:D}{v:Value}(h:VR m w d v)(hne:d.cells≠[]):CV m w d.cells v.cells:=h.cells hne
theorem fold_set (off:Nat):∀ (l:List Value) (j0:Nat) (cells:Array Value) (k:Nat),
  ((l.zipIdx j0).foldl (fun cs (p:Value × Nat)=>cs.setIfInBounds (off+p.2) p.1) cells)[k]? = (if off+j0≤k∧k<off+j0+l.length∧k<cells.size then l[k-off-j0]? else cells[k]?) ∧
  ((l.zipIdx j0).foldl (fun cs (p:Value × Nat)=>cs.setIfInBounds (off+p.2) p.1) cells).size=cells.size
 | [],j0,cells,k=>by
  simp only [List.zipIdx_nil,List.foldl_nil,and_true];rw [if_neg (by simp only [List.length_nil]; omega)]
 | v::l,j0,cells,k=>by
  obtain ⟨h1,h2⟩:=fold_set off l (j0+1) (cells.setIfInBounds (off+j0) v) k;simp only [List.zipIdx_cons,List.foldl_cons];refine ⟨?_,by rw [h2]; simp⟩
  rw [h1];simp only [Array.size_setIfInBounds,List.length_cons];by_cases hk:k=off+j0
  · subst hk
    rw [if_neg (by omega)]
    by_cases hs:off+j0<cells.size
    · rw [if_pos ⟨by omega,by omega,hs⟩]
      simp [hs]
    · rw [if_neg (by omega)]
      simp [hs]
  · have hne:off+j0≠k:=fun e=>hk e.symm
    by_cases hc:off+(j0+1)≤k∧k<off+(j0+1)+l.length∧k<cells.size
    · rw [if_pos hc,if_pos ⟨by omega,by omega,hc.2.2⟩]
      have:k-off-j0=(k-off-(j0+1))+1:=by omega
      rw [this,List.getElem?_cons_succ]
    · rw [if_neg hc,if_neg (by omega),Array.getElem?_setIfInBounds_ne hne]
theorem fill_cells (off:Nat)(v:Value)(cells:Array Value)(k:Nat) :
  (v.cells.zipIdx.foldl (fun cs (p:Value × Nat)=>cs.setIfInBounds (off+p.2) p.1) cells)[k]? = (if off≤k∧k<off+v.cells.size∧k<cells.size then v.cells[k-off]? else cells[k]?) ∧
  (v.cells.zipIdx.foldl (fun cs (p:Value × Nat)=>cs.setIfInBounds (off+p.2) p.1) cells).size=cells.size:=by
 have:=fold_set off v.cells.toList 0 cells k;rw [←Array.foldl_toList,Array.toList_zipIdx];simpa using this
theorem splice_get {α:Type}(cs:List α)(off:Nat)(new:List α)(h:off+new.length≤cs.length)(k:Nat):(splice cs off new)[k]? = (if off≤k∧k<off+new.length then new[k-off]? else cs[k]?)∧(splice cs off new).length=cs.length:=by
 unfold splice;refine ⟨?_,by simp only [List.length_append,List.length_take,List.length_drop]; omega⟩
 by_cases h1:k<off
 · rw [if_neg (by omega),List.append_assoc,List.getElem?_append_left (by simp only [List.length_take]; omega),List.getElem?_take,if_pos h1]
 · by_cases h2:k<off+new.length
   · rw [if_pos ⟨by omega,h2⟩,List.getElem?_append_left (by simp only [List.length_append,List.length_take]; omega),List.getElem?_append_right (by simp only [List.length_take]; omega)]
     congr 1;simp only [List.length_take]; omega
   · rw [if_neg (by omega),List.getElem?_append_right (by simp only [List.length_append,List.length_take]; omega),List.getElem?_drop]
     congr 1;simp only [List.length_append,List.length_take]; omega
theorem CV.fill {m:M}{w:World}{cs:List D}{vs:Array Value}(h:CV m w cs vs){d:D}{v:Value}(hv:VR m w d v){off s:Nat}(h1:d.cells.length=s)(h2:0<s)(h3:off+s≤cs.length) :
   CV m w (splice cs off d.cells) (v.cells.zipIdx.foldl (fun cs (p:Value × Nat)=>cs.setIfInBounds (off+p.2) p.1) vs)∧v.cells.size=s∧off+s≤vs.size:=by
 have hd:=hv.cv (fun e=>by rw [e] at h1; simp at h1; omega)
 have hs:v.cells.size=s:=by rw [←hd.1,h1]
 refine ⟨⟨?_,fun i c u hc hu=>?_⟩,hs,by rw [←h.1]; exact h3⟩
 · rw [(splice_get cs off d.cells (by omega) 0).2,(fill_cells off v vs 0).2,h.1]
 · rw [(splice_get cs off d.cells (by omega) i).1] at hc
   rw [(fill_cells off v vs i).1] at hu;by_cases hi:off≤i∧i<off+s
   · rw [if_pos (by omega)] at hc
     rw [if_pos (by have:=h.1; omega)] at hu
     exact hd.2 _ c u hc hu
   · rw [if_neg (by omega)] at hc
     rw [if_neg (by omega)] at hu
     exact h.2 i c u hc hu
def PR (m:M)(w:World)(ps:List (Nat × D))(vs:List (Nat × Value)):Prop:=ps.length=vs.length∧∀ (i:Nat) (p:Nat × D) (q:Nat × Value),ps[i]?=some p→vs[i]?=some q→p.1=q.1∧VR m w p.2 q.2
theorem PR.cons {m:M}{w:World}{p:Nat × D}{ps:List (Nat × D)}{vs:List (Nat × Value)}(h:PR m w (p::ps) vs):∃ v vs',vs=(p.1,v)::vs'∧VR m w p.2 v∧PR m w ps vs':=by
 obtain ⟨hl,hh⟩:=h
 cases vs with
 | nil=>simp at hl
 | cons q vs =>
  obtain ⟨h1,h2⟩:=hh 0 p q rfl rfl;obtain ⟨a,b⟩:=q;simp only at h1 h2;subst h1;exact ⟨b,vs,rfl,h2,by simpa using hl,fun i p q hp hq=>hh (i+1) p q (by simpa using hp) (by simpa using hq)⟩
theorem fillD_sound {m:M}{w:World}(place:Nat→Option (Nat × Nat)):∀ (ps:List (Nat × D)) (vps:List (Nat × Value)) (cs r:List D) (vs:Array Value),PR m w ps vps→CV m w cs vs→fillD place cs ps=some r →
  ∃ vs',Instr.fill place vs vps=some vs'∧CV m w r vs'
 | [],vps,cs,r,vs,hp,hc,h=>by
  simp only [fillD,Option.some.injEq] at h;subst h;have:vps=[]:=by have:=hp.1; cases vps<;>simp_all
  subst this;exact ⟨vs,rfl,hc⟩
 | (i,d)::ps,vps,cs,r,vs,hp,hc,h=>by
  obtain ⟨v,vps',rfl,hv,hp'⟩:=hp.cons;simp only [fillD] at h
  cases hpl:place i with
  | none=>simp [hpl] at h
  | some q =>
   obtain ⟨off,s⟩:=q;simp only [hpl] at h;split at h
   · rename_i hcond
     obtain ⟨c1,c2,c3⟩:=hcond;obtain ⟨hc',hs,hle⟩:=hc.fill hv c1 c2 c3;obtain ⟨vs',hf,hr⟩:=fillD_sound place ps vps' _ r _ hp' hc' h;refine ⟨vs',?_,hr⟩;simp only [Instr.fill,hpl];rw [if_neg (by simp [hs]; omega)]
     exact hf
   · cases h
theorem zeroT_some {t:TypeId}{z:T}(h:zeroT P t=some z):∃ i v,P.info? t=some i∧i.zero=some v∧T.ofVal v=some z:=by
 rw [zeroT_eq] at h;unfold zeroT0 at h;obtain ⟨i,hi,h⟩:=Option.bind_eq_some_iff.1 h;obtain ⟨v,hv,h⟩:=Option.bind_eq_some_iff.1 h;exact ⟨i,v,hi,hv,h⟩
theorem run_zeroT {t:TypeId}{z:T}(h:zeroT P t=some z)(w:World):∃ v,(zeroValue t).run P w = .ok v w∧T.ofVal v=some z:=by
 obtain ⟨i,v,hi,hv,hz⟩:=zeroT_some h;exact ⟨v,by simp [zeroValue,typeInfo,hi,hv],hz⟩
theorem ofVal_cv {m:M}{w:World}{v:Value}{z:T}(h:T.ofVal v=some z):CV m w (z.cells.map .t) v.cells:=by
 unfold T.ofVal at h;have key:=(ofVal_vr (m:=m) (w:=w) (v:=v) (x:=z) (by unfold T.ofVal; exact h))
 by_cases hne:(D.t z).cells=[]
 · -- an aggregate of no cells
   split at h
   · rename_i cs
     obtain ⟨ts,hts,rfl⟩:=Option.map_eq_some_iff.1 h;have hl:=(allM_some hts).1;simp [D.cells,T.cells] at hne;subst hne;refine ⟨by simpa [T.cells,Value.cells] using hl.symm,fun i c v hc=>by simp [T.cells] at hc⟩
   · have:=(scalarT_tr (w:=w) (S:=fun _=>False) h).2.2.1
     simp [D.cells,this] at hne
 · exact key.cv hne
theorem run_places (w:World):∀ (fs:List Field) (pl:List (Nat × Nat)),allM (fun f:Nat × TypeId=>(sz P f.2).map fun s=>(f.1,s)) (fs.map fun f=>(f.offset,f.type))=some pl →
  (fs.mapM (m:=Sem) fun f=>Prod.mk f.offset <$> Go.sizeOf f.type).run P w = .ok pl w
 | [],pl,h=>by
  simp only [List.map_nil,allM,Option.some.injEq] at h;subst h;simp
 | f::fs,pl,h=>by
  simp only [List.map_cons,allM] at h
  cases hs:sz P f.type with
  | none=>simp [hs] at h
  | some s =>
   simp only [hs,Option.map_some] at h
   cases hr:allM (fun f:Nat × TypeId=>(sz P f.2).map fun s=>(f.1,s)) (fs.map fun f=>(f.offset,f.type)) with
   | none=>simp [hr] at h
   | some r =>
    simp only [hr,Option.some.injEq] at h;subst h;have ih:=run_places w fs r hr;simp [List.mapM_cons,run_sz hs,ih]
theorem buildD_sound {w:World}{m:M}{t:TypeId}{ps:List (Nat × D)}{vps:Array (Nat × Value)}{d:D}(hp:PR m w ps vps.toList)(h:buildD P t ps=some d) :
  ∃ v,(Instr.build t vps).run P w = .ok v w∧VR m w d v:=by
 unfold buildD at h
 cases hz:zeroT P t with
 | none=>simp [hz] at h
 | some z =>
  simp only [hz] at h;obtain ⟨zv,hzr,hzo⟩:=run_zeroT hz w;have hcr:=ofVal_cv (m:=m) (w:=w) hzo
  cases hk:tk P t with
  | struct fs =>
   simp only [hk] at h;obtain ⟨fields,hu,rfl⟩:=tk_struct hk
   cases hpl:placesD P (fields.toList.map fun f=>(f.offset,f.type)) with
   | none=>simp [hpl] at h
   | some pl =>
   simp only [hpl] at h;obtain ⟨r,hr,rfl⟩:=Option.map_eq_some_iff.1 h;obtain ⟨vs',hf,hc'⟩:=fillD_sound _ ps vps.toList _ r _ hp hcr hr;refine ⟨.agg vs',?_,VR.mkAgg hc'.1 (fun i v hv=>?_) fun i d v hd hv=>(hc'.2 i d v hd hv).1⟩
   · have hpr:(fields.mapM (m:=Sem) fun f=>Prod.mk f.offset <$> Go.sizeOf f.type).run P w = .ok pl.toArray w:=by
       have:=run_places (P:=P) w fields.toList pl hpl;rw [Array.mapM_eq_mapM_toList,Sem.run_map,this];rfl
     simp [Instr.build,hzr,run_underlying hu,hpr,hf]
   · have hi:i<r.length:=by rw [hc'.1]; exact (Array.getElem?_eq_some_iff.1 hv).1
     exact (hc'.2 i _ v (List.getElem?_eq_getElem hi) hv).2
  | array n e =>
   simp only [hk] at h
   cases hs:sz P e with
   | none=>simp [hs] at h
   | some s =>
     simp only [hs] at h;obtain ⟨r,hr,rfl⟩:=Option.map_eq_some_iff.1 h;obtain ⟨vs',hf,hc'⟩:=fillD_sound _ ps vps.toList _ r _ hp hcr hr;refine ⟨.agg vs',?_,VR.mkAgg hc'.1 (fun i v hv=>?_) fun i d v hd hv=>(hc'.2 i d v hd hv).1⟩
     · simp [Instr.build,hzr,run_underlying (tk_array hk),run_sz hs,hf]
     · have hi:i<r.length:=by rw [hc'.1]; exact (Array.getElem?_eq_some_iff.1 hv).1
       exact (hc'.2 i _ v (List.getElem?_eq_getElem hi) hv).2
  | _=>simp [hk] at h
def EV (m:M)(w:World)(s:Nat)(es:List D)(vs:Array Value):Prop:=vs.size=es.length*s∧(∀ (i:Nat) (d:D),es[i]?=some d→d.cells.length=s) ∧
 ∀ (i j:Nat) (d c:D),es[i]?=some d→d.cells[j]?=some c→∃ u,vs[i*s+j]?=some u∧VR m w c u∧u.oneCell'=true
theorem EV.bel {m:M}{w w':World}{s:Nat}{es:List D}{vs:Array Value}(h:EV m w s es vs)(hb:Below w.heap.size w w'):EV m w' s es vs :=
 ⟨h.1,h.2.1,fun i j d c hd hc=>by obtain ⟨u,hu,hv,ho⟩:=h.2.2 i j d c hd hc; exact ⟨u,hu,hv.bel hb,ho⟩⟩
theorem EV.zeros {m:M}{w:World}{s n:Nat}{zv:Value}{z:T}(h:T.ofVal zv=some z)(hs:z.cells.length=s)(h0:0<s) :
   EV m w s (List.replicate n (.t z)) ((Array.range (n*s)).map fun i=>zv.cells[i%zv.cells.size]!):=by
 have hcv:=ofVal_cv (m:=m) (w:=w) h;have hl:zv.cells.size=s:=by rw [←hcv.1]; simpa using hs
 refine ⟨by simp,fun i d hd=>?_,fun i j d c hd hc=>?_⟩
 · rw [List.getElem?_replicate] at hd
   split at hd<;>cases hd
   simpa [D.cells] using hs
 · rw [List.getElem?_replicate] at hd
   split at hd<;>cases hd
   rename_i hi;simp only [D.cells] at hc;have hj:j<s:=by have:=(List.getElem?_eq_some_iff.1 hc).1; simpa [hs] using this
   have hjz:j<zv.cells.size:=by omega
   obtain ⟨h1,h2⟩:=hcv.2 j c zv.cells[j] hc (by simp [hjz])
   have hlt:i*s+j<n*s:=by
    have:(i+1)*s≤n*s:=Nat.mul_le_mul_right _ hi;rw [Nat.add_mul] at this;omega
   refine ⟨zv.cells[j],?_,h1,h2⟩;have hmod:(i*s+j)%s=j:=by rw [Nat.add_comm,Nat.add_mul_mod_self_right,Nat.mod_eq_of_lt hj]
   simp [hlt,hl,hmod];exact getElem!_pos zv.cells j hjz
theorem EV.set {m:M}{w:World}{s:Nat}{es:List D}{vs:Array Value}(h:EV m w s es vs){d:D}{v:Value}(hv:VR m w d v){i:Nat}(h1:d.cells.length=s)(h0:0<s)(hi:i<es.length) :
   EV m w s (es.set i d) (v.cells.zipIdx.foldl (fun cs (p:Value × Nat)=>cs.setIfInBounds (i*s+p.2) p.1) vs)∧v.cells.size=s∧i*s+s≤vs.size:=by
 have hd:=hv.cv (fun e=>by rw [e] at h1; simp at h1; omega)
 have hs:v.cells.size=s:=by rw [←hd.1,h1]
 have hle:i*s+s≤vs.size:=by
   rw [h.1,←Nat.succ_mul];exact Nat.mul_le_mul_right _ hi
 refine ⟨⟨?_,fun k d' hd'=>?_,fun k j d' c hd' hc=>?_⟩,hs,hle⟩
 · rw [(fill_cells (i*s) v vs 0).2,h.1,List.length_set]
 · rw [List.getElem?_set] at hd'
   split at hd'
   · try split at hd'
     all_goals cases hd'
     exact h1
   · exact h.2.1 k d' hd'
 · rw [List.getElem?_set] at hd'
   rw [(fill_cells (i*s) v vs _).1];split at hd'
   · rename_i hki
     subst hki
     try split at hd'
     all_goals cases hd'
     have hj:j<s:=by have:=(List.getElem?_eq_some_iff.1 hc).1; omega
     rw [if_pos ⟨by omega,by omega,by omega⟩]
     have:i*s+j-i*s=j:=by omega
     rw [this];have hjv:j<v.cells.size:=by omega
     obtain ⟨q1,q2⟩:=hd.2 j c v.cells[j] hc (by simp [hjv])
     exact ⟨_,by simp [hjv],q1,q2⟩
   · rename_i hki
     obtain ⟨u,hu,hvr,ho⟩:=h.2.2 k j d' c hd' hc;have hj:j<s:=by have:=(List.getElem?_eq_some_iff.1 hc).1; have:=h.2.1 k d' hd'; omega
     refine ⟨u,?_,hvr,ho⟩;rw [if_neg ?_]
     · exact hu
     · rintro ⟨a1,a2,_⟩
       rcases Nat.lt_or_gt_of_ne hki with hlt|hlt
       · have:(i+1)*s≤k*s:=Nat.mul_le_mul_right _ hlt
         rw [Nat.add_mul] at this;omega
       · have:(k+1)*s≤i*s:=Nat.mul_le_mul_right _ hlt
         rw [Nat.add_mul] at this;omega
theorem setsD_sound {m:M}{w:World}{s:Nat}(h0:0<s):∀ (ps:List (Nat × D)) (vps:List (Nat × Value)) (es r:List D) (vs:Array Value),PR m w ps vps→EV m w s es vs→setsD s es ps=some r →
  ∃ vs',Instr.fill (fun i=>some (i*s,s)) vs vps=some vs'∧EV m w s r vs'∧r.length=es.length
 | [],vps,es,r,vs,hp,hc,h=>by
  simp only [setsD,Option.some.injEq] at h;subst h;have:vps=[]:=by have:=hp.1; cases vps<;>simp_all
  subst this;exact ⟨vs,rfl,hc,rfl⟩
 | (i,d)::ps,vps,es,r,vs,hp,hc,h=>by
  obtain ⟨v,vps',rfl,hv,hp'⟩:=hp.cons;simp only [setsD] at h;split at h
  · rename_i hcond
    obtain ⟨c1,c2⟩:=hcond;obtain ⟨hc',hs,hle⟩:=hc.set hv c1 h0 c2;obtain ⟨vs',hf,hr,hl⟩:=setsD_sound h0 ps vps' _ r _ hp' hc' h;refine ⟨vs',?_,hr,by simpa using hl⟩
    simp only [Instr.fill];rw [if_neg (by simp [hs]; omega)]
    exact hf
  · cases h
theorem setsD_refs {n s:Nat}:∀ (ps:List (Nat × D)) (es r:List D),(∀ p∈ps,p.2.refsB n=true)→es.all (D.refsB n)=true→setsD s es ps=some r→r.all (D.refsB n)=true
 | [],es,r,_,h,hs=>by simp only [setsD,Option.some.injEq] at hs; subst hs; exact h
 | (i,d)::ps,es,r,hp,h,hs=>by
  simp only [setsD] at hs;split at hs
  · refine setsD_refs ps _ r (fun p hpm=>hp p (List.mem_cons_of_mem _ hpm)) ?_ hs
    rw [List.all_eq_true] at h ⊢;intro x hx;rcases List.mem_or_eq_of_mem_set hx with hx|hx
    · exact h x hx
    · subst hx; exact hp (i,_) (List.mem_cons_self)
  · cases hs
theorem buildSlice_run {w:World}{m:M}{t e:TypeId}{n s:Nat}{z:T}{ps:List (Nat × D)}{vps:Array (Nat × Value)}{es:List D}(hk:tk P t = .slice e)(hs:sz P e=some s)(hz:zeroT P e=some z)
   (h1:z.cells.length=s) (h0:0<s) (hn:n*s≤16777216) (hp:PR m w ps vps.toList) (he:setsD s (List.replicate n (.t z)) ps=some es) :
   ∃ vs,(Instr.buildSlice t n vps).run P w = .ok (.slice (some ⟨w.heap.size,0,none⟩) n n) (w.alloc (.cells vs e))∧EV m w s es vs∧es.length=n:=by
 obtain ⟨i,zv,hi,hzv,hzo⟩:=zeroT_some hz;obtain ⟨i',hi',his⟩:=sz_some hs;rw [hi] at hi';obtain rfl:=Option.some.inj hi';obtain ⟨vs,hf,hev,hl⟩:=setsD_sound h0 ps vps.toList _ es _ hp (EV.zeros (n:=n) hzo h1 h0) he;rw [List.length_replicate] at hl;refine ⟨vs,?_,hev,hl⟩;subst his;by_cases hn0:n=0
 · subst hn0
   have hes:es=[]:=List.eq_nil_of_length_eq_zero hl;subst hes;have hvs:vs = #[]:=by have:=hev.1; simpa using this
   subst hvs;have hf':Instr.fill (fun i_1=>some (i_1*i.size,i.size)) #[] vps.toList=some #[]:=by rw [←hf]; simp [Array.range_zero']
   simp [Instr.buildSlice,run_underlying (tk_slice hk),Go.sizeOf,typeInfo,hi,newRow,hf',Array.range_zero']
 · have hpos:¬ n*i.size=0:=by
    intro e;rcases Nat.mul_eq_zero.1 e with e|e<;>omega
   exact run_buildSlice w t e n vps vs i zv (tk_slice hk) hi hzv (by omega) hpos hf
theorem below_alloc (w:World)(o:Obj):Below w.heap.size w (w.alloc o):=(Below.refl _ _).alloc (Nat.le_refl _) o
theorem EV.tree {m:M}{w':World}{s:Nat}{es:List D}{vs:Array Value}{ts:List T}{g e n cap:Nat}{fr:Nat × Nat}(h:EV m w' s es vs)(ht:allM D.toT es=some ts)(hg:w'.heap[g]?=some (.cells vs e fr))(hb:¬ m.blocks g)
   (hn:es.length=n) (hc:n≤cap):TR w' m.blocks (.slice ts) (.slice (some ⟨g,0,none⟩) n cap):=by
 have hl:=(allM_some ht).1;have hget:∀ (i:Nat) (c:T),ts[i]?=some c→es[i]?=some (.t c):=by
   intro i c hi;obtain ⟨d,hd,hdc⟩:=allM_get ht hi;rw [hd,toT_some hdc]
 refine .slice (s:=s) (us:=fun i j=>vs.getD (i*s+j) undef) (by omega) hc (fun i c hi=>?_) (fun i j c u hi hu=>?_) (fun i j c u hi hu=>?_)
 · have:=h.2.1 i _ (hget i c hi)
   simpa [D.cells] using this
 · obtain ⟨v,hv,hvr,ho⟩:=h.2.2 i j (.t c) (.t u) (hget i c hi) (by simp [D.cells,hu])
   have:vs.getD (i*s+j) undef=v:=by simp [hv]
   simp only [this];exact ⟨hb,by rw [lit_add,cell_of_row w' g _ vs e fr hg,Nat.zero_add]; exact hv,ho⟩
 · obtain ⟨v,hv,hvr,ho⟩:=h.2.2 i j (.t c) (.t u) (hget i c hi) (by simp [D.cells,hu])
   have:vs.getD (i*s+j) undef=v:=by simp [hv]
   simp only [this]
   cases hvr with
   | t hx=>exact hx
theorem litSliceD_sound {w:World}{m:M}{h:H}(hr:HR m w h){t:TypeId}{n:Nat}{ps:List (Nat × D)}{vps:Array (Nat × Value)}{d:D}(hp:PR m w ps vps.toList)(hl:litSliceD P t n ps=some d) :
  ∃ v w',(Instr.buildSlice t n vps).run P w = .ok v w'∧Below w.heap.size w w'∧VR m w' d v:=by
 unfold litSliceD at hl
 cases hk:tk P t with
 | slice e =>
  simp only [hk] at hl
  cases hs:sz P e with
  | none=>simp [hs] at hl
  | some s =>
  cases hz:zeroT P e with
  | none=>simp [hs,hz] at hl
  | some z =>
  simp only [hs,hz] at hl;split at hl
  · rename_i hc
    obtain ⟨c1,c2,c3⟩:=hc
    cases he:setsD s (List.replicate n (.t z)) ps with
    | none=>simp [he] at hl
    | some es =>
     simp only [he] at hl;obtain ⟨ts,hts,rfl⟩:=Option.map_eq_some_iff.1 hl;obtain ⟨vs,hrun,hev,hln⟩:=buildSlice_run (w:=w) (m:=m) hk hs hz c1 c2 c3 hp he;refine ⟨_,_,hrun,below_alloc _ _,.t ?_⟩;refine (hev.bel (below_alloc w (.cells vs e))).tree hts (heap_alloc_new w _) (hr.fresh (Nat.le_refl _)) hln (Nat.le_refl _)
  · cases hl
 | _=>simp [hk] at hl
theorem mkIface_vr {m:M}{w:World}{t:TypeId}{d:D}{v:Value}(h:VR m w d v):VR m w (mkIface t d) (.iface t v):=by
 cases d with
 | t x=>cases h with
  | t hx=>exact .t (.iface hx)
 | _=>exact .iface h
theorem solid_known {k:TK}(h:k.solid=true):k.form≠0:=by cases k<;>simp_all [TK.solid,TK.form]
theorem makeInterface_sound {m:M}{w:World}{t:TypeId}{d:D}{v:Value}(hv:VR m w d v)(h:(tk P t).solid=true):(Instr.makeInterface t v).run P w = .ok (.iface t v) w∧VR m w (mkIface t d) (.iface t v):=by
 obtain ⟨u,hu,hk⟩:=tk_known (solid_known h);refine ⟨?_,mkIface_vr hv⟩;rw [hk] at h;simp only [Instr.makeInterface,Sem.run_bind,run_underlying hu,Result.andThen_ok];cases u<;>first|rfl|simp [TK.of,TK.solid] at h
theorem parts_cv {m:M}{w:World}{d:D}{v:Value}{cs:List D}(hv:VR m w d v)(h:d.parts=some cs):∃ vs,v = .agg vs∧CV m w cs vs:=by
 unfold D.parts at h;split at h
 · simp only [Option.some.injEq] at h
   subst h
   cases hv with
   | t hx =>
   cases hx with
   | agg hl h1 hh =>
   refine ⟨_,rfl,by simpa using hl,fun i c v hc hv=>?_⟩
   simp only [List.getElem?_map,Option.map_eq_some_iff] at hc;obtain ⟨y,hy,rfl⟩:=hc;exact ⟨.t (hh i y v hy hv),h1 i v hv⟩
 · simp only [Option.some.injEq] at h
   subst h
   cases hv with
   | agg hl h1 hh=>exact ⟨_,rfl,hl,fun i c v hc hv=>⟨hh i c v hc hv,h1 i v hv⟩⟩
 · cases h
theorem fieldD_sound {w:World}{m:M}{t:TypeId}{a d:D}{v:Value}{f:Nat}(hv:VR m w a v)(h:fieldD P t a f=some d):∃ z,(Instr.field t v f).run P w = .ok z w∧VR m w d z:=by
 unfold fieldD at h
 cases hk:tk P t with
 | struct fs =>
  simp only [hk] at h
  cases hf:fs[f]? with
  | none=>simp [hf] at h
  | some p =>
   obtain ⟨off,ty⟩:=p;simp only [hf] at h
   cases hp:a.parts with
   | none=>simp [hp] at h
   | some cs =>
    simp only [hp] at h;obtain ⟨vs,rfl,hc⟩:=parts_cv hv hp;obtain ⟨fields,hu,rfl⟩:=tk_struct hk;simp only [List.getElem?_map,Option.map_eq_some_iff,Prod.mk.injEq] at hf;obtain ⟨fl,hfl,rfl,rfl⟩:=hf;have hfl':fields[f]?=some fl:=by simpa using hfl
    obtain ⟨z,hz,hzr⟩:=part_val hc h;exact ⟨z,by simp [Instr.field,run_underlying hu,hfl',asAgg,hz],hzr⟩
 | _=>simp [hk] at h
theorem indexD_sound {w:World}{m:M}{t:TypeId}{a i d:D}{v u:Value}(hv:VR m w a v)(hu:VR m w i u)(h:indexD P t a i=some d):∃ z,(Instr.index t v u).run P w = .ok z w∧VR m w d z:=by
 unfold indexD at h;split at h
 · rename_i k i
   cases hu with
   | t hu =>
   cases hu;split at h
   · rename_i h0
     cases hk:tk P t with
     | str =>
      simp only [hk] at h
      cases a with
      | t x =>
       cases x with
       | str s =>
         simp only at h
         cases hv with
         | t hv =>
         cases hv
         cases hb:s.data[i.toNat]? with
         | none=>simp [hb] at h
         | some b =>
          simp only [hb,Option.some.injEq] at h;subst h;have hb':s[i.toNat]?=some b:=by
           have hi:=(Array.getElem?_eq_some_iff.1 hb);obtain ⟨hi,hbi⟩:=hi;have hi':i.toNat<s.size:=hi;rw [getElem?_pos s i.toNat hi'];rw [←hbi];rfl
          exact ⟨_,by simp [Instr.index,asIntOf,run_underlying (tk_str hk),h0,hb'],.t (.int _ _)⟩
       | _=>simp at h
      | _=>simp at h
     | array n e =>
      simp only [hk] at h
      cases hp:a.parts with
      | none=>simp [hp] at h
      | some cs =>
      cases hs:sz P e with
      | none=>simp [hp,hs] at h
      | some s =>
       simp only [hp,hs] at h;split at h
       · rename_i hi
         obtain ⟨vs,rfl,hc⟩:=parts_cv hv hp;obtain ⟨z,hz,hzr⟩:=part_val hc h;refine ⟨z,?_,hzr⟩;have hi':i<(n:Int):=by omega
         simp [Instr.index,asIntOf,run_underlying (tk_array hk),h0,hi',run_sz hs,hz]
       · cases h
     | _=>simp [hk] at h
   · cases h
 · cases h
theorem assertD_sound {w:World}{m:M}{t xt:TypeId}{ok:Bool}{a d:D}{v:Value}(hv:VR m w a v)(h:assertD P t ok a=some d):∃ z,(Instr.typeAssert v xt t ok).run P w = .ok z w∧VR m w d z:=by
 unfold assertD at h;split at h
 · rename_i hsol
   obtain ⟨u,hu,hk⟩:=tk_known (solid_known hsol);have hni:∀ ms,u ≠ .interface ms:=fun ms e=>by rw [hk,e] at hsol; simp [TK.of,TK.solid] at hsol
   have hold:∀ {x:D} {z:Value},VR m w x z→VR m w (holdD ok x) (if ok then .tuple #[z,.bool true] else z):=by
     intro x z hx;unfold holdD
     cases ok with
     | false=>exact hx
     | true =>
       refine .tup rfl fun i d v hd hv=>?_
       cases i with
       | zero=>simp at hd hv; subst hd; subst hv; exact hx
       | succ i =>
         cases i with
         | zero=>simp at hd hv; subst hd; subst hv; exact .t (.bool true)
         | succ i=>simp at hd
   have run1:∀ z:Value,(Instr.typeAssert (.iface t z) xt t ok).run P w = .ok (if ok then .tuple #[z,.bool true] else z) w:=by
     intro z;simp only [Instr.typeAssert,Sem.run_bind,run_underlying hu,Result.andThen_ok];cases u<;>first|exact absurd rfl (hni _)|simp
   have fail:∀ {d:D},failD P ok t=some d→∀ z:Value,(z = .nilIface∨∃ s y,s≠t∧z = .iface s y)→∃ r,(Instr.typeAssert z xt t ok).run P w = .ok r w∧VR m w d r:=by
     intro d hd z hz;unfold failD at hd;split at hd
     · rename_i hok
       obtain ⟨zt,hzt,rfl⟩:=Option.map_eq_some_iff.1 hd;obtain ⟨zv,hzv,hzo⟩:=run_zeroT hzt w;refine ⟨.tuple #[zv,.bool false],?_,.tup rfl fun i d v hd hv=>?_⟩
       · subst hok
         rcases hz with rfl|⟨s,y,hne,rfl⟩
         · simp only [Instr.typeAssert,Sem.run_bind,run_underlying hu,Result.andThen_ok]
           cases u<;>first|exact absurd rfl (hni _)|simp [hzv]
         · simp only [Instr.typeAssert,Sem.run_bind,run_underlying hu,Result.andThen_ok]
           cases u<;>first|exact absurd rfl (hni _)|simp [hzv,hne]
       · cases i with
         | zero=>simp at hd hv; subst hd; subst hv; exact ofVal_vr hzo
         | succ i =>
           cases i with
           | zero=>simp at hd hv; subst hd; subst hv; exact .t (.bool false)
           | succ i=>simp at hd
     · cases hd
   split at h
   · cases hv with
     | t hv=>cases hv; exact fail h _ (.inl rfl)
   · rename_i s x
     cases hv with
     | t hv =>
     cases hv with
     | iface hv =>
     split at h
     · rename_i hst
       subst hst;simp only [Option.some.injEq] at h;subst h;exact ⟨_,run1 _,hold (.t hv)⟩
     · rename_i hst
       exact fail h _ (.inr ⟨_,_,hst,rfl⟩)
   · rename_i s x
     cases hv with
     | iface hv =>
     split at h
     · rename_i hst
       subst hst;simp only [Option.some.injEq] at h;subst h;exact ⟨_,run1 _,hold hv⟩
     · rename_i hst
       exact fail h _ (.inr ⟨_,_,hst,rfl⟩)
   · cases h
 · cases h
theorem mmAll_sound {w:World}{m:M}(mx:Bool):∀ (ds:List D) (vs:List Value) (x d:D) (u:Value),VR m w x u→ds.length=vs.length→(∀ (i:Nat) (d:D) (v:Value),ds[i]?=some d→vs[i]?=some v→VR m w d v)→mmAll mx x ds=some d →
  ∃ z,((vs.foldlM (if mx then Builtin.max2 else Builtin.min2) u:Sem Value)).run P w = .ok z w∧VR m w d z
 | [],vs,x,d,u,hx,hl,_,h=>by
  have:vs=[]:=by cases vs<;>simp_all
  subst this;simp only [mmAll] at h;split at h
  · simp only [Option.some.injEq] at h
    subst h;exact ⟨u,by simp,hx⟩
  · cases h
 | y::ds,vs,x,d,u,hx,hl,hv,h=>by
  cases vs with
  | nil=>simp at hl
  | cons v vs =>
    have hy:=hv 0 y v rfl rfl;simp only [mmAll] at h
    cases hm:mm2 mx x y with
    | none=>simp [hm] at h
    | some z =>
     simp only [hm] at h;unfold mm2 at hm;split at hm
     · rename_i k a k' b
       simp only [Option.some.injEq] at hm
       cases hx with
       | t hx =>
       cases hx
       cases hy with
       | t hy =>
       cases hy;obtain ⟨q,hq,hqr⟩:=mmAll_sound mx ds vs z d (.int k (if mx then (if a<b then b else a) else (if b<a then b else a))) (by rw [←hm]; exact .t (.int _ _)) (by simpa using hl) (fun i d v hd hvv=>hv (i+1) d v (by simpa using hd) (by simpa using hvv)) h
       refine ⟨q,?_,hqr⟩;rw [List.foldlM_cons,Sem.run_bind];have:((if mx then Builtin.max2 else Builtin.min2) (.int k a) (.int k' b):Sem Value).run P w = .ok (.int k (if mx then (if a<b then b else a) else (if b<a then b else a))) w:=by
        cases mx
        · simp only [Bool.false_eq_true,if_false]; rfl
        · simp only [if_true]; rfl
       rw [this];exact hq
     · cases hm
end
end Vai

namespace Vai
open Go
open Go.RowKit (Below)
variable [Gl]
section
variable {P:Program}
structure Eff (m:M) (w:World) (h:H) (d:D) (v:Value) (w':World) (h':H) (m':M):Prop where
 hr:HR m' w' h'
 vr:VR m' w' d v
 ext:Ext h.next m w m' w'
 refs:d.refsB h'.next=true
 next:h.next≤h'.next
 marks:h'.marks=h.marks
def PRE (m:M)(w:World)(s:Nat)(es:List D)(cur:Array Value):Prop:=(∀ (i:Nat) (d:D),es[i]?=some d→d.cells.length=s) ∧
 ∀ (i j:Nat) (d c:D),es[i]?=some d→d.cells[j]?=some c→∃ u,cur[i*s+j]?=some u∧VR m w c u∧u.oneCell'=true
theorem EV.pre {m:M}{w:World}{s:Nat}{es:List D}{vs:Array Value}(h:EV m w s es vs):PRE m w s es vs:=h.2
theorem PRE.ext {n:Nat}{m m':M}{w w':World}{s:Nat}{es:List D}{cur:Array Value}(h:PRE m w s es cur)(he:Ext n m w m' w')(hr:es.all (D.refsB n)=true):PRE m' w' s es cur :=
 ⟨h.1,fun i j d c hd hc=>by obtain ⟨u,hu,hv,ho⟩:=h.2 i j d c hd hc; exact ⟨u,hu,he.vr hv (cells_refs (all_get hr hd) hc),ho⟩⟩
theorem PRE.append {m:M}{w:World}{s:Nat}{es:List D}{cur rest:Array Value}(h:PRE m w s es cur):PRE m w s es (cur++rest) :=
 ⟨h.1,fun i j d c hd hc=>by
  obtain ⟨u,hu,hv,ho⟩:=h.2 i j d c hd hc;refine ⟨u,?_,hv,ho⟩;have hlt:=(Array.getElem?_eq_some_iff.1 hu).1;rw [Array.getElem?_append_left hlt]; exact hu⟩
theorem PRE.cat {m:M}{w:World}{s:Nat}{es es':List D}{vs vs':Array Value}(h:PRE m w s es vs)(hl:vs.size=es.length*s)(h':PRE m w s es' vs'):PRE m w s (es++es') (vs++vs'):=by
 refine ⟨fun i d hd=>?_,fun i j d c hd hc=>?_⟩
 · rcases Nat.lt_or_ge i es.length with hi|hi
   · rw [List.getElem?_append_left hi] at hd; exact h.1 i d hd
   · rw [List.getElem?_append_right hi] at hd; exact h'.1 _ d hd
 · rcases Nat.lt_or_ge i es.length with hi|hi
   · rw [List.getElem?_append_left hi] at hd
     obtain ⟨u,hu,hv,ho⟩:=h.2 i j d c hd hc;have hlt:=(Array.getElem?_eq_some_iff.1 hu).1;exact ⟨u,by rw [Array.getElem?_append_left hlt]; exact hu,hv,ho⟩
   · rw [List.getElem?_append_right hi] at hd
     obtain ⟨u,hu,hv,ho⟩:=h'.2 _ j d c hd hc;refine ⟨u,?_,hv,ho⟩;have hle:es.length*s≤i*s:=Nat.mul_le_mul_right _ hi;rw [Array.getElem?_append_right (by omega),hl]
     have:i*s+j-es.length*s=(i-es.length)*s+j:=by rw [Nat.mul_sub_right_distrib]; omega
     rw [this]; exact hu
theorem PRE.take {m:M}{w:World}{s:Nat}{es:List D}{cur:Array Value}(h:PRE m w s es cur)(n:Nat):PRE m w s (es.take n) cur:=by
 refine ⟨fun i d hd=>?_,fun i j d c hd hc=>?_⟩
 all_goals
   rw [List.getElem?_take] at hd;split at hd
 · exact h.1 i d hd
 · cases hd
 · exact h.2 i j d c hd hc
 · cases hd
theorem push_row {m:M}{w w':World}{h:H}(hr:HR m w h)(hw:Below w.heap.size w w'){g bt s cap:Nat}{cur:Array Value}{es:List D}(hb:w'.heap[g]?=some (.cells cur bt (0,0)))(hg:w.heap.size≤g)
  (hp:PRE m w s es cur) (h0:0<s) (hcs:cur.size=cap*s) (hcap:es.length≤cap) (hmax:cap≤maxLen) (hrefs:es.all (D.refsB h.next)=true) :
  HR (m.upd h.next (some ⟨g,es.length,s,cap⟩)) w' (h.push (.row bt s es))∧Ext h.next m w (m.upd h.next (some ⟨g,es.length,s,cap⟩)) w':=by
 refine hr.push (x':=⟨g,es.length,s,cap⟩) hw hg (fun he=>?_) hrefs
 exact ⟨rfl,h0,rfl,hcap,hmax,cur,hb,hcs,(hp.ext he hrefs).1,(hp.ext he hrefs).2⟩
theorem push_ptr {m:M}{w':World}{h:H}{g n s cap i f:Nat}:VR (m.upd h.next (some ⟨g,n,s,cap⟩)) w' (.ptr h.next i f n) (.pointer (some ⟨g,i*s+f,none⟩)) :=
 .ptr rfl fun x hx=>by rw [M.upd_same] at hx; obtain rfl:=Option.some.inj hx; exact ⟨Nat.le_refl _,fun _=>rfl⟩
theorem push_slice {m:M}{w':World}{h:H}{g n s cap len:Nat}(h1:len≤n)(h2:n≤cap):VR (m.upd h.next (some ⟨g,n,s,cap⟩)) w' (.row h.next 0 len n) (.slice (some ⟨g,0,none⟩) len cap) :=
 .row rfl fun x hx=>by
  rw [M.upd_same] at hx; obtain rfl:=Option.some.inj hx;exact ⟨Nat.le_refl _,fun _=>⟨by simpa using h1,_,cap,rfl,by omega,by simp,fun _=>by simp⟩⟩
theorem one_cells {m:M}{w:World}{d:D}{v:Value}(hv:VR m w d v)(ho:v.oneCell'=true)(h:d.cells.length=1):d.cells=[d]:=by
 cases hv with
 | undef=>simp [D.cells] at h
 | t hx =>
  rcases hx.one with ⟨cs,vs,rfl,rfl⟩|⟨h1,_,_⟩
  · cases ho
  · simp [D.cells,h1]
 | agg=>cases ho
 | tup=>cases ho
 | _=>rfl
theorem allM_refs {n:Nat}{ds:List D}(h:∀ (j:Nat)(c:D),ds[j]?=some c→c.refsB n=true):D.refsB.refsL n ds=true:=by
 rw [refsL_all,List.all_eq_true];intro x hx;obtain ⟨j,hj⟩:=List.getElem?_of_mem hx;exact h j x hj
theorem chunk_get {α:Type}(s:Nat):∀ (n:Nat) (l:List α) (i:Nat),(chunk s n l)[i]? = if i<n then some ((l.drop (i*s)).take s) else none
 | 0,l,i=>by simp [chunk]
 | n+1,l,i=>by
  cases i with
  | zero=>simp [chunk]
  | succ i =>
   rw [chunk,List.getElem?_cons_succ,chunk_get s n _ i,List.drop_drop];have:s+i*s=(i+1)*s:=by rw [Nat.add_mul]; omega
   rw [this];by_cases hi:i<n
   · rw [if_pos hi,if_pos (by omega)]
   · rw [if_neg hi,if_neg (by omega)]
theorem chunk_len {α:Type}(s:Nat):∀ (n:Nat) (l:List α),(chunk s n l).length=n
 | 0,_=>rfl
 | n+1,l=>by simp [chunk,chunk_len s n]
theorem chunk_key {m:M}{w:World}{ag:Bool}{n s:Nat}{cs es:List D}{vs:Array Value}(hc:CV m w cs vs)(h:allM (ofCells ag) (chunk s n cs)=some es){i:Nat}{d:D}(hd:es[i]?=some d) :
   d.cells=(cs.drop (i*s)).take s∧i<n:=by
 obtain ⟨c,hcc,hcd⟩:=allM_get h hd;rw [chunk_get] at hcc;split at hcc
 · rename_i hi
   cases hcc;refine ⟨?_,hi⟩;unfold ofCells at hcd;split at hcd
   · cases hcd; exact mkAgg_cells _
   · split at hcd
     · rename_i x hx
       split at hcd
       · rename_i h1
         cases hcd;rw [hx];have hx0:cs[i*s]?=some d:=by
          have:((cs.drop (i*s)).take s)[0]?=some d:=by rw [hx]; rfl
          rw [List.getElem?_take] at this;split at this
          · rw [List.getElem?_drop] at this; simpa using this
          · cases this
         have hlt:i*s<vs.size:=by rw [←hc.1]; exact (List.getElem?_eq_some_iff.1 hx0).1
         obtain ⟨q1,q2⟩:=hc.2 _ d vs[i*s] hx0 (by simp [hlt])
         exact one_cells q1 q2 h1
       · cases hcd
     · cases hcd
 · cases hcc
theorem chunk_pre {m:M}{w:World}{ag:Bool}{n s:Nat}{cs es:List D}{vs:Array Value}(hc:CV m w cs vs)(hl:cs.length=n*s)(h:allM (ofCells ag) (chunk s n cs)=some es) :
   PRE m w s es vs∧es.length=n:=by
 refine ⟨⟨fun i d hd=>?_,fun i j d c hd hcj=>?_⟩,by rw [← (allM_some h).1,chunk_len]⟩
 · obtain ⟨h1,h2⟩:=chunk_key hc h hd
   have:(i+1)*s≤n*s:=Nat.mul_le_mul_right _ h2;rw [Nat.add_mul] at this;rw [h1,List.length_take,List.length_drop];omega
 · obtain ⟨h1,h2⟩:=chunk_key hc h hd
   rw [h1,List.getElem?_take] at hcj;split at hcj
   · rw [List.getElem?_drop] at hcj
     have hlt:i*s+j<vs.size:=by rw [←hc.1]; exact (List.getElem?_eq_some_iff.1 hcj).1
     obtain ⟨q1,q2⟩:=hc.2 _ c vs[i*s+j] hcj (by simp [hlt])
     exact ⟨_,by simp [hlt],q1,q2⟩
   · cases hcj
theorem ofCells_refs {n:Nat}{ag:Bool}{cs:List D}{d:D}(h:ofCells ag cs=some d)(hr:∀ (j:Nat)(c:D),cs[j]?=some c→c.refsB n=true):d.refsB n=true:=by
 unfold ofCells at h;split at h
 · cases h; exact mkAgg_refs (allM_refs hr)
 · split at h
   · split at h
     · cases h; exact hr 0 _ rfl
     · cases h
   · cases h
theorem chunk_refs {n k s:Nat}{ag:Bool}{cs es:List D}(h:allM (ofCells ag) (chunk s k cs)=some es)(hr:∀ (j:Nat)(c:D),cs[j]?=some c→c.refsB n=true):es.all (D.refsB n)=true:=by
 rw [List.all_eq_true];intro x hx;obtain ⟨i,hi⟩:=List.getElem?_of_mem hx;obtain ⟨c,hc,hcd⟩:=allM_get h hi;refine ofCells_refs hcd fun j y hj=>?_
 rw [chunk_get] at hc;split at hc
 · cases hc
   rw [List.getElem?_take] at hj;split at hj
   · rw [List.getElem?_drop] at hj; exact hr _ y hj
   · cases hj
 · cases hc
theorem varD_sound {m:M}{w:World}{h h':H}{t:TypeId}{d p:D}{v:Value}(hr:HR m w h)(hv:VR m w d v)(hd:d.refsB h.next=true)(h1:varD P h t d=some (p,h')) :
   ∃ u w' m',(newVar t v).run P w = .ok u w'∧Eff m w h p (.pointer (some u)) w' h' m':=by
 unfold varD at h1;split at h1
 · rename_i hs
   obtain ⟨hs,hpos⟩:=hs;have hrun:(newVar t v).run P w = .ok ⟨w.heap.size,0,none⟩ (w.alloc (.cells v.cells t)):=by simp [newVar,newRow]
   have hbel:=below_alloc w (.cells v.cells t);have hnew:=heap_alloc_new w (.cells v.cells t);have hrf:∀ (j:Nat) (c:D),d.cells[j]?=some c→c.refsB h.next=true:=fun j c hc=>cells_refs hd hc
   have plain:d.cells.length≠0→p = .ptr h.next 0 0 1→h'=h.push (.row t d.cells.length [d])→∃ u w' m',(newVar t v).run P w = .ok u w'∧Eff m w h p (.pointer (some u)) w' h' m':=by
    intro hne hp hh;subst hp hh;have hcv:=hv.cv (fun e=>hne (by rw [e]; rfl))
    have hpre:PRE m w d.cells.length [d] v.cells:=by
     refine ⟨fun i x hx=>?_,fun i j x c hx hc=>?_⟩
     · cases i with
       | zero=>simp at hx; subst hx; rfl
       | succ i=>simp at hx
     · cases i with
       | succ i=>simp at hx
       | zero =>
        simp at hx; subst hx;have hlt:j<v.cells.size:=by rw [←hcv.1]; exact (List.getElem?_eq_some_iff.1 hc).1
        obtain ⟨q1,q2⟩:=hcv.2 j c v.cells[j] hc (by simp [hlt])
        exact ⟨_,by simp [hlt],q1,q2⟩
    obtain ⟨r1,r2⟩:=push_row hr hbel (cap:=1) hnew (Nat.le_refl _) hpre (by omega) (by rw [Nat.one_mul]; exact hcv.1.symm) (Nat.le_refl _) (by decide) (by simp [hd])
    exact ⟨_,_,_,hrun,r1,by simpa using push_ptr (i:=0) (f:=0) (cap:=1),r2,by simp [D.refsB,H.push],by simp [H.push],rfl⟩
   cases hk:tk P t with
   | array n e =>
    simp only [hk] at h1
    cases hse:sz P e with
    | none=>simp [hse] at h1
    | some s =>
     simp only [hse] at h1;split at h1
     · rename_i hl
       obtain ⟨hl,hnm⟩:=hl
       cases hc:allM (ofCells (tk P e).isAgg) (chunk s n d.cells) with
       | none=>simp [hc] at h1
       | some es =>
        simp only [hc,Option.some.injEq,Prod.mk.injEq] at h1;obtain ⟨rfl,rfl⟩:=h1;have hcv:=hv.cv (List.length_pos_iff.1 hpos);obtain ⟨hpre,hlen⟩:=chunk_pre hcv hl hc;have h0:0<n*s:=by rw [←hl]; exact hpos
        have hs0:0<s:=Nat.pos_of_mul_pos_left h0;obtain ⟨r1,r2⟩:=push_row hr hbel (cap:=n) hnew (Nat.le_refl _) hpre hs0 (by rw [←hcv.1,hl]) (by omega) (by simp only [maxLen]; omega) (chunk_refs hc hrf)
        rw [hlen] at r1 r2;exact ⟨_,_,_,hrun,r1,by simpa using push_ptr (i:=0) (f:=0) (cap:=n),r2,by simp [D.refsB,H.push],by simp [H.push],rfl⟩
     · cases h1
   | _ =>
    simp only [hk,Option.some.injEq,Prod.mk.injEq] at h1;obtain ⟨rfl,rfl⟩:=h1;exact plain (by omega) rfl rfl
 · cases h1
theorem buildSliceD_sound {m:M}{w:World}{h h':H}{t:TypeId}{n:Nat}{ps:List (Nat × D)}{vps:Array (Nat × Value)}{p:D}(hr:HR m w h)(hp:PR m w ps vps.toList)(hrf:∀ p∈ps,p.2.refsB h.next=true)
  (h1:buildSliceD P h t n ps=some (p,h')):∃ v w' m',(Instr.buildSlice t n vps).run P w = .ok v w'∧Eff m w h p v w' h' m':=by
 unfold buildSliceD at h1
 cases hk:tk P t with
 | slice e =>
  simp only [hk] at h1
  cases hs:sz P e with
  | none=>simp [hs] at h1
  | some s =>
  cases hz:zeroT P e with
  | none=>simp [hs,hz] at h1
  | some z =>
  simp only [hs,hz] at h1;split at h1
  · rename_i hc
    obtain ⟨c1,c2,c3⟩:=hc
    cases he:setsD s (List.replicate n (.t z)) ps with
    | none=>simp [he] at h1
    | some es =>
     simp only [he,Option.some.injEq,Prod.mk.injEq] at h1;obtain ⟨rfl,rfl⟩:=h1;obtain ⟨vs,hrun,hev,hln⟩:=buildSlice_run (w:=w) (m:=m) hk hs hz c1 c2 c3 hp he;have hn:n≤16777216:=Nat.le_trans (Nat.le_mul_of_pos_right _ c2) c3;obtain ⟨r1,r2⟩:=push_row hr (below_alloc w (.cells vs e)) (cap:=n) (heap_alloc_new w _) (Nat.le_refl _) hev.pre c2 (by rw [hev.1,hln]) (by omega) (by simp only [maxLen]; omega)
      (setsD_refs ps _ es hrf (by simp [List.all_replicate,D.refsB]) he)
     rw [hln] at r1 r2;exact ⟨_,_,_,hrun,r1,push_slice (Nat.le_refl _) (Nat.le_refl _),r2,by simp [D.refsB,H.push],by simp [H.push],rfl⟩
  · cases h1
 | _=>simp [hk] at h1
theorem byt_some {t:TypeId}{n:Nat}(h:byt P t=some n):∃ i,P.info? t=some i∧i.bytes=n:=by
 rw [byt_eq] at h;unfold byt0 at h;exact Option.map_eq_some_iff.1 h
theorem makeSliceD_sound {m:M}{w:World}{h h':H}{t:TypeId}{l c p:D}{lv cv:Value}(hr:HR m w h)(hl:VR m w l lv)(hc:VR m w c cv)(h1:makeSliceD P h t l c=some (p,h')) :
   ∃ v w' m',(Instr.makeSlice t lv cv).run P w = .ok v w'∧Eff m w h p v w' h' m':=by
 unfold makeSliceD at h1;split at h1
 · rename_i e k l k' c hk
   cases hl with
   | t hl =>
   cases hl
   cases hc with
   | t hc =>
   cases hc
   cases hs:sz P e with
   | none=>simp [hs] at h1
   | some s =>
   cases hb:byt P e with
   | none=>simp [hs,hb] at h1
   | some b =>
   cases hz:zeroT P e with
   | none=>simp [hs,hb,hz] at h1
   | some z =>
   simp only [hs,hb,hz] at h1;split at h1
   · rename_i hcond
     obtain ⟨c1,c2,c3,c4,c5,c6⟩:=hcond;simp only [Option.some.injEq,Prod.mk.injEq] at h1;obtain ⟨rfl,rfl⟩:=h1;obtain ⟨i,zv,hi,hzv,hzo⟩:=zeroT_some hz;obtain ⟨i',hi',his⟩:=sz_some hs;rw [hi] at hi';obtain rfl:=Option.some.inj hi';obtain ⟨i',hi',hib⟩:=byt_some hb;rw [hi] at hi';obtain rfl:=Option.some.inj hi';subst his;have hbb:(i.bytes:Int)*c≤281474976710656:=by
      have hcc:c=(c.toNat:Int):=by omega
      rw [hcc,hib,←Int.natCast_mul];omega
     have hrun:=run_make (P:=P) w t e i zv (tk_slice hk) hi hzv k k' l c c3 c4 hbb (by omega)
     have hev:=EV.zeros (m:=m) (w:=w) (n:=c.toNat) hzo c1 c2;have hpre:=hev.pre.take l.toNat;rw [List.take_replicate,Nat.min_eq_left (by omega)] at hpre
     obtain ⟨r1,r2⟩:=push_row hr (below_alloc w (.cells (madeCells zv.cells (c.toNat*i.size)) e)) (cap:=c.toNat) (heap_alloc_new w _) (Nat.le_refl _) hpre c2 (by rw [size_madeCells]) (by simp only [List.length_replicate]; omega) (by simp only [maxLen]; omega)
      (by simp [List.all_replicate,D.refsB])
     rw [List.length_replicate] at r1 r2;exact ⟨_,_,_,hrun,r1,push_slice (Nat.le_refl _) (by omega),r2,by simp [D.refsB,H.push],by simp [H.push],rfl⟩
   · cases h1
 · cases h1
theorem setRow_other' (w:World)(g k:Nat)(cs:Array Value)(h:k≠g):(w.setRow g cs).heap[k]? = w.heap[k]?:=setRow_other w g k cs h
theorem storeVar_run {w:World}{g o:Nat}{bt t:TypeId}{cur:Array Value}{v:Value}{n:Nat}(hb:w.heap[g]?=some (.cells cur bt (0,0)))(hs:sz P t=some n)(hn:v.cells.size=n)(hle:o+n≤cur.size)(h1:∀ (i:Nat)(u:Value),v.cells[i]?=some u→u.oneCell'=true) :
  (storeVar t ⟨g,o,none⟩ v).run P w = .ok () (w.setRow g (splice cur.toList o v.cells.toList).toArray):=by
 have hst:=run_storeCells_at P g o bt v.cells.toList 0 cur w hb (by simp; omega) (fun u hu=>by
  obtain ⟨i,hi⟩:=List.getElem?_of_mem hu;exact h1 i u (by simpa using hi))
 simp only [Nat.add_zero] at hst;simp [storeVar,run_sz hs,hn,hst,splice]
theorem refsL_cells {n:Nat}{d:D}(h:d.refsB n=true):∀ (j:Nat) (c:D),d.cells[j]?=some c→c.refsB n=true:=fun j c hc=>cells_refs h hc
theorem mays_refs {h:H}{id:Nat}{ds:List D}(hm:h.mays id ds=true):∀ mk∈h.marks,id<mk→∀ d∈ds,d.refsB mk=true:=by
 intro mk hmk hlt d hd;have h1:=(List.all_eq_true.1 hm) d hd;have h2:=(List.all_eq_true.1 h1) mk hmk;simpa [hlt] using h2
theorem putCells_cells {m:M}{w:World}{d:D}{f s:Nat}{new:List D}(hl:d.cells.length=s)(h0:0<s)(hle:f+new.length≤s)(hn:0<new.length)(hone:∀ (i:Nat)(c:D),new[i]?=some c→c.cells=[c]) :
  (putCells d f new).cells=splice d.cells f new:=by
 unfold putCells
 cases hp:d.parts with
 | some cs =>
  simp only;rw [mkAgg_cells];unfold D.parts at hp;split at hp
  · cases hp; rfl
  · cases hp; rfl
  · cases hp
 | none =>
  simp only;have hd:d.cells=[d]:=by
    cases d with
    | t x=>cases x<;>first|rfl|simp [D.parts] at hp
    | agg=>simp [D.parts] at hp
    | undef=>simp [D.cells] at hl; omega
    | tup=>simp [D.cells] at hl; omega
    | pan=>simp [D.cells] at hl; omega
    | _=>rfl
  rw [hd] at hl;simp only [List.length_singleton] at hl;have hf:f=0:=by omega
  have hnl:new.length=1:=by omega
  subst hf
  cases new with
  | nil=>simp at hnl
  | cons c cs =>
    simp only [List.length_cons,Nat.add_eq_right] at hnl;have:cs=[]:=List.eq_nil_of_length_eq_zero (by simpa using hnl)
    subst this;rw [hd];simp [splice,hone 0 c rfl]
theorem toList_get {vs:Array Value}(i:Nat):vs.toList[i]? = vs[i]?:=by simp
theorem storeD_sound {m : M} {w : World} {h h' : H} {t : TypeId} {a d : D} {av v : Value} (hr : HR m w h) (ha : VR m w a av) (hv : VR m w d v) (hd : d.refsB h.next = true) (h1 : storeD P h t a d = some h') :
    ∃ w', (Instr.storeAt t av v).run P w = .ok () w' ∧ HR m w' h' ∧ Ext h.next m w m w' ∧ h'.next = h.next ∧ h'.marks = h.marks := by
  unfold storeD at h1;split at h1
  · rename_i id i f top
    cases he : h.els id top with
    | none => simp [he] at h1
    | some y =>
      obtain ⟨bt, s, es⟩ := y;simp only [he] at h1;obtain ⟨x, hx, htop, hxs, rfl, hor, hob, hlen⟩ := ptr_at hr ha he;obtain ⟨o1, o2, o3, o4, o5, cur, hb, hcs, hds, hcells⟩ := hor;have hold := hr.below id _ hob;split at h1
      · rename_i hcond
        obtain ⟨hm, hsz, hpos, hok⟩ := hcond;have hm' := mays_refs hm;have hrfl := refsL_cells hd
        -- the writing, and what it leaves
        have fin : ∀ (off : Nat) (es' : List D), i * s + f = off → 0 < d.cells.length → off + d.cells.length ≤ cur.size → es'.length = es.length → (∀ (k : Nat) (e : D), es'[k]? = some e → e.cells.length = s) →
            (∀ (k j : Nat) (e c : D), es'[k]? = some e → e.cells[j]? = some c → (off ≤ k * s + j ∧ k * s + j < off + d.cells.length → d.cells[k * s + j - off]? = some c) ∧ (¬ (off ≤ k * s + j ∧ k * s + j < off + d.cells.length) → ∃ e0, es[k]? = some e0 ∧ e0.cells[j]? = some c)) →
            (∀ n, (∀ e ∈ es, D.refsB n e = true) → (∀ c ∈ d.cells, D.refsB n c = true) → ∀ e ∈ es', D.refsB n e = true) → h' = h.set id (.row bt s es') →
            ∃ w', (Instr.storeAt t (.pointer (some ⟨x.blk, i * s + f, none⟩)) v).run P w = .ok () w' ∧ HR m w' h' ∧ Ext h.next m w m w' ∧ h'.next = h.next ∧ h'.marks = h.marks := by
          intro off es' hoff hpos hfit hl1 hl2 hl3 hl4 hh;subst hh;have hcv := hv.cv (List.length_pos_iff.1 hpos);have hrun := storeVar_run (w := w) (g := x.blk) (o := off) (t := t) (v := v) hb hsz.symm hcv.1.symm hfit (fun k u hu => by
            have hk : k < d.cells.length := by rw [hcv.1]; exact (Array.getElem?_eq_some_iff.1 hu).1
            exact (hcv.2 k _ u (List.getElem?_eq_getElem hk) hu).2)
          have hsl := splice_get cur.toList off v.cells.toList (by simp only [Array.length_toList]; rw [← hcv.1]; exact hfit)
          have hturn := hr.turn (w' := w.setRow x.blk (splice cur.toList off v.cells.toList).toArray) (id := id) (x' := x) (o' := .row bt s es') (n' := h.next) rfl rfl rfl (by simp [World.setRow]) (fun k hk hne => setRow_other' w x.blk k _ (hne x hx)) (hr.dom id x hx).2 (Nat.le_refl _)
            (fun e => by rw [hx] at e; cases e) (fun y hy => by rw [hx] at hy; exact .inl (Option.some.inj hy)) (.inr ⟨x, hx, rfl⟩)
            (fun hext => ⟨o1, o2, by omega, o4, o5, _, setRow_heap w x.blk cur _ bt _ hb, by simp only [List.size_toArray]; rw [(hsl 0).2]; simpa using hcs, hl2, fun k j e c hek hej => by
              obtain ⟨q1, q2⟩ := hl3 k j e c hek hej;simp only [List.getElem?_toArray];rw [(hsl (k * s + j)).1];simp only [Array.length_toList, ← hcv.1, toList_get];by_cases hin : off ≤ k * s + j ∧ k * s + j < off + d.cells.length
              · rw [if_pos hin]
                have hdc := q1 hin;have hlt : k * s + j - off < v.cells.size := by rw [← hcv.1]; omega
                obtain ⟨r1, r2⟩ := hcv.2 _ c v.cells[k * s + j - off] hdc (by simp [hlt])
                exact ⟨_, by simp [hlt], hext.vr r1 (hrfl _ c hdc), r2⟩
              · rw [if_neg hin]
                obtain ⟨e0, he0, hec⟩ := q2 hin;obtain ⟨u, hu, hvr, ho⟩ := hcells k j e0 c he0 hec;exact ⟨u, hu, hext.vr hvr (cells_refs (all_get hold he0) hec), ho⟩⟩)
            (by
              simp only [AObj.refsB, List.all_eq_true] at hold ⊢;exact hl4 h.next hold (fun c hc => by obtain ⟨j, hj⟩ := List.getElem?_of_mem hc; exact hrfl j c hj))
            (fun mk hmk hlt => by
              have := (hr.marks mk hmk).2 id _ hob hlt;simp only [AObj.refsB, List.all_eq_true] at this ⊢;exact hl4 mk this (hm' mk hmk hlt))
          obtain ⟨t1, t2⟩ := hturn;have hupd : m.upd id (some x) = m := by
            exact M.upd_self hx
          rw [hupd] at t1 t2;refine ⟨_, ?_, t1, t2, rfl, rfl⟩;rw [hoff];simpa [Instr.storeAt, Instr.sureAddr] using hrun
        split at h1
        · rename_i hw
          obtain ⟨n, e, k1, rfl, rfl, k4, k5, k6⟩ := whole_some hw
          cases hc : allM (ofCells (arrAgg P t)) (chunk s top d.cells) with
          | none => simp [hc] at h1
          | some es' =>
            simp only [hc, Option.some.injEq] at h1;have hdl : d.cells.length = n * s := by rw [k6] at hsz; exact Option.some.inj hsz
            have hcv := hv.cv (List.length_pos_iff.1 hpos);obtain ⟨hpre, hl'⟩ := chunk_pre hcv (by rw [hdl, k4]) hc
            refine fin 0 es' (by simp) hpos ?_ (by omega) hpre.1 (fun k j e c hek hej => ?_) (fun m hes hcs => ?_) h1.symm
            · rw [hcs, hdl, Nat.zero_add]
              exact Nat.mul_le_mul_right _ (by omega)
            · obtain ⟨q1, q2⟩ := chunk_key hcv hc hek
              rw [q1, List.getElem?_take] at hej;split at hej
              · rename_i hjs
                rw [List.getElem?_drop] at hej;refine ⟨fun _ => by simpa using hej, fun hno => absurd ⟨Nat.zero_le _, ?_⟩ hno⟩
                have := (List.getElem?_eq_some_iff.1 hej).1;omega
              · cases hej
            · have := chunk_refs (n := m) hc (fun j c hj => hcs c (List.mem_of_getElem? hj))
              rw [List.all_eq_true] at this;exact this
        · cases hi : es[i]? with
          | none => simp [hi] at h1
          | some e =>
            simp only [hi] at h1;split at h1
            · rename_i hle
              simp only [Option.some.injEq] at h1;have hel := hds i e hi;have hcv := hv.cv (List.length_pos_iff.1 hpos);have hilt : i < es.length := (List.getElem?_eq_some_iff.1 hi).1;have hone : ∀ (k : Nat) (c : D), d.cells[k]? = some c → c.cells = [c] := by
                intro k c hk;have hlt : k < v.cells.size := by rw [← hcv.1]; exact (List.getElem?_eq_some_iff.1 hk).1
                obtain ⟨q1, q2⟩ := hcv.2 k c v.cells[k] hk (by simp [hlt])
                have := all_get (p := fun c : D => c.cells.length == 1) hok hk
                exact one_cells q1 q2 (by simpa using this)
              have hpc := putCells_cells (m := m) (w := w) (f := f) (s := s) (new := d.cells) hel o2 (by rw [← hel]; exact hle) hpos hone
              have hsp := splice_get e.cells f d.cells hle;refine fin (i * s + f) (es.set i (putCells e f d.cells)) rfl hpos ?_ (by simp) (fun k e' he' => ?_) (fun k j e' c hek hej => ?_) (fun m hes hcs e' he' => ?_) h1.symm
              · rw [hcs]
                have : (i + 1) * s ≤ x.cap * s := Nat.mul_le_mul_right _ (by omega)
                rw [Nat.add_mul] at this;omega
              · rw [List.getElem?_set] at he'
                split at he'
                · try split at he'
                  all_goals cases he'
                  rw [hpc, (hsp 0).2, hel]
                · exact hds k e' he'
              · rw [List.getElem?_set] at hek
                split at hek
                · rename_i hik
                  subst hik
                  try split at hek
                  all_goals cases hek
                  rw [hpc, (hsp j).1] at hej;split at hej
                  · rename_i hj
                    exact ⟨fun _ => by have : i * s + j - (i * s + f) = j - f := by omega
                                       rw [this]; exact hej, fun hno => absurd ⟨by omega, by omega⟩ hno⟩
                  · rename_i hj
                    exact ⟨fun hin => absurd ⟨by omega, by omega⟩ hj, fun _ => ⟨e, hi, hej⟩⟩
                · rename_i hik
                  have hjs : j < s := by have := (List.getElem?_eq_some_iff.1 hej).1; have := hds k e' hek; omega
                  refine ⟨fun ⟨a1, a2⟩ => ?_, fun _ => ⟨e', hek, hej⟩⟩
                  exfalso;rcases Nat.lt_or_gt_of_ne hik with hlt | hlt
                  · have : (i + 1) * s ≤ k * s := Nat.mul_le_mul_right _ hlt
                    rw [Nat.add_mul] at this;omega
                  · have : (k + 1) * s ≤ i * s := Nat.mul_le_mul_right _ hlt
                    rw [Nat.add_mul] at this;omega
              · rcases List.mem_or_eq_of_mem_set he' with he' | he'
                · exact hes e' he'
                · subst he'
                  have hcr : ∀ c ∈ splice e.cells f d.cells, D.refsB m c = true := by
                    intro c hc;obtain ⟨j, hj⟩ := List.getElem?_of_mem hc;rw [(hsp j).1] at hj;split at hj
                    · exact hcs c (List.mem_of_getElem? hj)
                    · exact cells_refs (hes e (List.mem_of_getElem? hi)) hj
                  unfold putCells
                  cases hp : e.parts with
                  | some cs =>
                    have hcse : cs = e.cells := by
                      unfold D.parts at hp;split at hp
                      · cases hp; rfl
                      · cases hp; rfl
                      · cases hp
                    subst hcse;exact mkAgg_refs (by rw [refsL_all, List.all_eq_true]; exact hcr)
                  | none =>
                    simp only;have hde : e.cells = [e] := by
                      cases e with
                      | t y => cases y <;> first | rfl | simp [D.parts] at hp
                      | agg => simp [D.parts] at hp
                      | undef => simp [D.cells] at hel; omega
                      | tup => simp [D.cells] at hel; omega
                      | pan => simp [D.cells] at hel; omega
                      | _ => rfl
                    rw [hde] at hcr
                    cases hq : splice [e] f d.cells with
                    | nil => rfl
                    | cons c cs => exact hcr c (by rw [hq]; simp)
            · cases h1
      · cases h1
  · cases h1
end
end Vai

namespace Vai
open Go
open Go.RowKit (Below)
variable [Gl]
section
variable {P:Program}
theorem idx_lt {i j s n:Nat}(hi:i<n)(hj:j<s):i*s+j<n*s:=by
 have:(i+1)*s≤n*s:=Nat.mul_le_mul_right _ hi;rw [Nat.add_mul] at this;omega
theorem load_rows {m:M}{w w':World}(hw:w'.heap=w.heap){ad:Addr}{s:Nat}{es:List D}(h0:0<s)(hs:∀ (i:Nat)(d:D),es[i]?=some d→d.cells.length=s)
  (hc:∀ (i j:Nat) (d c:D),es[i]?=some d→d.cells[j]?=some c→∃ u,w.cell? (ad.add (i*s+j))=some u∧VR m w c u∧u.oneCell'=true) :
  ∃ news,(loadCells ad (es.length*s)).run P w' = .ok news w'∧EV m w s es news:=by
 have hcell:∀ a,w'.cell? a=w.cell? a:=fun a=>by simp [World.cell?,hw]
 let f:Nat→Value:=fun j=>(w.cell? (ad.add j)).getD undef
 have hf:∀ j,j<es.length*s→∃ (i k:Nat) (d c:D),es[i]?=some d∧d.cells[k]?=some c∧j=i*s+k:=by
  intro j hj;have hi:j/s<es.length:=(Nat.div_lt_iff_lt_mul h0).2 hj;have hk:j%s<s:=Nat.mod_lt _ h0;have hsz:=hs _ _ (List.getElem?_eq_getElem hi);have hk':j%s<es[j/s].cells.length:=by rw [hsz]; exact hk
  refine ⟨j/s,j%s,es[j/s],_,List.getElem?_eq_getElem hi,List.getElem?_eq_getElem hk',?_⟩;rw [Nat.mul_comm]; exact (Nat.div_add_mod j s).symm
 have hg:∀ j,j<es.length*s→w'.cell? (ad.add j)=some (f j):=by
  intro j hj;obtain ⟨i,k,d,c,hd,hk,rfl⟩:=hf j hj;obtain ⟨u,hu,_⟩:=hc i k d c hd hk;rw [hcell];simp only [f,hu,Option.getD_some]
 refine ⟨_,run_loadCells (P:=P) w' ad _ f hg,by simp,hs,fun i j d c hd hcj=>?_⟩
 obtain ⟨u,hu,hv,ho⟩:=hc i j d c hd hcj;refine ⟨u,?_,hv,ho⟩;have hi:i<es.length:=(List.getElem?_eq_some_iff.1 hd).1;have hj:j<s:=by have:=(List.getElem?_eq_some_iff.1 hcj).1; rw [hs i d hd] at this; exact this
 have hlt:=idx_lt (n:=es.length) hi hj;simp [hlt,f,hu]
theorem take_all {s:Nat}{es:List D}(h:es.all (fun d=>d.cells.length == s)=true)(n:Nat):∀ (i:Nat) (d:D),(es.take n)[i]?=some d→d.cells.length=s:=by
 intro i d hd;rw [List.getElem?_take] at hd;split at hd
 · have:=all_get (p:=fun d:D=>d.cells.length == s) h hd
   simpa using this
 · cases hd
theorem sourceD_sound {m:M}{w:World}{h:H}{x:D}{v:Value}{new:List D}{s:Nat}(hr:HR m w h)(hv:VR m w x v)(hs:sourceD h x=some new)(h0:0<s)(hall:new.all (fun d=>d.cells.length == s)=true) :
   (∀ w',(Builtin.lenOf v).run P w' = .ok new.length w')∧(∀ n,n≤new.length→∀ w':World,w'.heap=w.heap→∃ news,(Builtin.firstCells s n v).run P w' = .ok news w'∧EV m w s (new.take n) news) ∧
     new.all (D.refsB h.next)=true:=by
 unfold sourceD at hs;split at hs
 · cases hs
   cases hv with
   | t hx =>
   cases hx;refine ⟨fun w'=>rfl,fun n hn w' hw=>⟨#[],rfl,?_⟩,rfl⟩
   have:n=0:=by simpa using hn
   subst this;exact ⟨by simp,fun i d hd=>by simp at hd,fun i j d c hd=>by simp at hd⟩
 · rename_i es
   simp only [Option.some.injEq] at hs;subst hs
   cases hv with
   | t hx =>
   cases hx with
   | @slice _ ad len cap s' us hl hlc hss hcell hh =>
   subst hl;refine ⟨fun w'=>by simp [Builtin.lenOf],fun n hn w' hw=>?_,by simp [List.all_map,D.refsB]⟩
   have ht:=take_all hall n;have hlen:((es.map D.t).take n).length=n:=by simp at hn ⊢; omega
   obtain ⟨news,h1,h2⟩:=load_rows (P:=P) (m:=m) (w:=w) (w':=w') hw (ad:=ad) (s:=s) (es:=(es.map D.t).take n) h0 ht (fun i j d c hd hc=>by
     have hsz:=ht i d hd;rw [List.getElem?_take] at hd;split at hd
     · simp only [List.getElem?_map,Option.map_eq_some_iff] at hd
       obtain ⟨e,he,rfl⟩:=hd;have hs1:=hss i e he;simp only [D.cells,List.length_map] at hsz;have hs':s'=s:=by omega
       subst hs';simp only [D.cells,List.getElem?_map,Option.map_eq_some_iff] at hc;obtain ⟨y,hy,rfl⟩:=hc;obtain ⟨_,q1,q2⟩:=hcell i j e y he hy;exact ⟨_,q1,.t (hh i j e y he hy),q2⟩
     · cases hd)
   rw [hlen] at h1;exact ⟨news,by simpa [Builtin.firstCells] using h1,h2⟩
 · rename_i b
   simp only [Option.some.injEq] at hs;subst hs
   cases hv with
   | t hx =>
   cases hx;refine ⟨fun w'=>by simp [Builtin.lenOf,bytesT],fun n hn w' hw=>⟨(b.extract 0 n).data.map fun b=>.int .u8 b.toNat,rfl,?_⟩,by simp [List.all_map,D.refsB]⟩
   have hn':n≤b.size:=by simpa [bytesT] using hn
   have hsz:(b.extract 0 n).data.size=n:=by simp [ByteArray.extract,ByteArray.copySlice]; omega
   by_cases hn0:n=0
   · subst hn0
     exact ⟨by simp [hsz],fun i d hd=>by simp at hd,fun i j d c hd=>by simp at hd⟩
   · have hs1:s=1:=by
       have hb0:0<b.data.toList.length:=by simp; omega
       have:=all_get (p:=fun d:D=>d.cells.length == s) (i:=0) (x:=D.t (.int .u8 (b.data.toList[0]).toNat)) hall (by
         simp only [bytesT,List.getElem?_map,List.getElem?_eq_getElem hb0,Option.map_some])
       simp [D.cells,T.cells] at this;exact this.symm
     subst hs1;refine ⟨by simp [bytesT],take_all hall n,fun i j d c hd hc=>?_⟩
     rw [List.getElem?_take] at hd;split at hd
     · rename_i hi
       simp only [bytesT,List.getElem?_map,Option.map_eq_some_iff] at hd;obtain ⟨e,⟨y,hy,rfl⟩,rfl⟩:=hd
       cases j with
       | succ j=>simp [D.cells,T.cells] at hc
       | zero =>
       simp [D.cells,T.cells] at hc;subst hc;refine ⟨.int .u8 y.toNat,?_,.t (.int _ _),rfl⟩;rw [Nat.mul_one,Nat.add_zero];have hyb:b.data[i]?=some y:=by simpa using hy
       have hib:i<b.size:=(Array.getElem?_eq_some_iff.1 hyb).1;have:(b.extract 0 n).data[i]?=some y:=by
         simp [ByteArray.extract,ByteArray.copySlice,Array.getElem?_extract];have:i<min n b.size:=by omega
         simp [this,hyb]
       rw [Array.getElem?_map,this];rfl
     · cases hd
 · rename_i id i len top
   cases he:h.els id top with
   | none=>simp [he] at hs
   | some y =>
     obtain ⟨bt,s',es⟩:=y;simp only [he] at hs;split at hs
     · rename_i hle
       simp only [Option.some.injEq] at hs;subst hs;obtain ⟨x,hx,htop,hxs,hor,hob,hlen⟩:=els_at hr he;have hold:=hr.below id _ hob
       cases hv with
       | row hone hp =>
       obtain ⟨_,hp'⟩:=hp x hx;obtain ⟨hit,ad,cap,rfl,hlc,hcx,had⟩:=hp' htop;have hnl:((es.drop i).take len).length=len:=by simp; omega
       refine ⟨fun w'=>by rw [hnl]; simp [Builtin.lenOf],fun n hn w' hw=>?_,?_⟩
       · rw [hnl] at hn
         have ht:=take_all hall n;obtain ⟨o1,o2,o3,o4,o5,cur,hb,hcs,hds,hcells⟩:=hor;have hlen':(((es.drop i).take len).take n).length=n:=by simp; omega
         obtain ⟨news,h1,h2⟩:=load_rows (P:=P) (m:=m) (w:=w) (w':=w') hw (ad:=ad) (s:=s) (es:=((es.drop i).take len).take n) h0 ht (fun k j d c hd hc=>by
          have hsz:=ht k d hd;rw [List.getElem?_take] at hd;split at hd
          · rename_i hk
            rw [List.getElem?_take] at hd;split at hd
            · rw [List.getElem?_drop] at hd
              have hs':=hds _ d hd;have hss:s'=s:=by omega
              subst hss;obtain ⟨u,hu,hvr,ho⟩:=hcells _ j d c hd hc;refine ⟨u,?_,hvr,ho⟩;rw [had (by omega),lit_add,cell_of_row w x.blk _ cur bt (0,0) hb,hxs,←hu,Nat.add_mul]
              congr 1;omega
            · cases hd
          · cases hd)
         rw [hlen'] at h1;exact ⟨news,by simpa [Builtin.firstCells] using h1,h2⟩
       · rw [List.all_eq_true]
         intro d hd;simp only [AObj.refsB,List.all_eq_true] at hold;exact hold d (List.mem_of_mem_drop (List.mem_of_mem_take hd))
     · cases hs
 · cases hs
theorem EV.take_self {m:M}{w:World}{s n:Nat}{es:List D}{vs:Array Value}(h:EV m w s (es.take n) vs)(hn:n=es.length):EV m w s es vs:=by
 subst hn
 rwa [List.take_length] at h
theorem nextcap_pos {need old b:Nat}(h:old<need)(hb:need*b≤140737488355328):¬ (Builtin.nextslicecap need old*b>281474976710656):=by
 have:=growslice_fits h hb;omega
theorem append_room_run {t u ty e:TypeId}{i:TypeInfo}{w:World}{ad:Addr}{len cap n:Nat}{x:Value}{news:Array Value}{w':World}(hk:P.underlying t=some (.slice e))(hi:P.info? e=some i)(hu:(∃ e',P.underlying u=some (.slice e'))∨P.underlying u=some .string)
  (hl:(Builtin.lenOf x).run P w = .ok n w) (hf:(Builtin.firstCells i.size n x).run P w = .ok news w) (hroom:len+n≤cap) (hst:(storeCells (ad.add (len*i.size)) news.toList).run P w = .ok () w') :
  (Builtin.append_ #[t,u] ty #[.slice (some ad) len cap,x]).run P w = .ok (.slice (some ad) (len+n) cap) w':=by
 rcases hu with ⟨e',hu⟩|hu<;>simp [Builtin.append_,run_underlying hk,run_underlying hu,Go.sizeOf,typeInfo,hi,hl,hf,hroom,hst]
theorem append_none_run {t u ty e:TypeId}{i:TypeInfo}{w:World}{x:Value}{news:Array Value}(hk:P.underlying t=some (.slice e))(hi:P.info? e=some i)(hu:(∃ e',P.underlying u=some (.slice e'))∨P.underlying u=some .string)
  (hl:(Builtin.lenOf x).run P w = .ok 0 w) (hf:(Builtin.firstCells i.size 0 x).run P w = .ok news w) :
  (Builtin.append_ #[t,u] ty #[.slice none 0 0,x]).run P w = .ok (.slice none 0 0) w:=by
 rcases hu with ⟨e',hu⟩|hu<;>simp [Builtin.append_,run_underlying hk,run_underlying hu,Go.sizeOf,typeInfo,hi,hl,hf]
theorem append_grow_run {t u ty e:TypeId}{i:TypeInfo}{z:Value}{w:World}{base:Option Addr}{len cap n:Nat}{x:Value}{olds news:Array Value}(hk:P.underlying t=some (.slice e))(hi:P.info? e=some i)(hz:i.zero=some z)
  (hu:(∃ e',P.underlying u=some (.slice e'))∨P.underlying u=some .string)
  (hl:(Builtin.lenOf x).run P w = .ok n w) (hold:(Builtin.firstCells i.size len (.slice base len cap)).run P w.drew = .ok olds w.drew) (hf:(Builtin.firstCells i.size n x).run P w.drew = .ok news w.drew) (hroom:cap<len+n)
  (hb:(len+n)*i.bytes≤140737488355328) (h63:len+n<140737488355328) (hb0:i.bytes≠0∨True) :
  (Builtin.append_ #[t,u] ty #[.slice base len cap,x]).run P w = .ok (.slice (some ⟨w.heap.size,0,none⟩) (len+n) (grownCap w (len+n) cap e)) (w.drew.alloc (.cells (olds++news++Builtin.zeroCells z.cells (grownCap w (len+n) cap e-(len+n))) e)):=by
 have h1:¬ len+n≤cap:=by omega
 have h2:¬ (9223372036854775807<((len:Int)+(n:Int))):=by omega
 have h3:=nextcap_pos hroom hb;have h4:¬ (281474976710656<Builtin.nextslicecap (len+n) cap*i.bytes):=h3;have hmax:IntKind.i64.max=9223372036854775807:=by decide
 have h6:IntKind.i64.max<(len:Int)+n→¬ i.bytes=0:=by rw [hmax]; omega
 rcases hu with ⟨e',hu⟩|hu<;>simp [Builtin.append_,run_underlying hk,run_underlying hu,Go.sizeOf,typeInfo,hi,hl,h1,h4,Question.forced,grownCap,hold,hf,zeroValue,hz,newRow]<;>omega
theorem eff_push {m:M}{w w':World}{h:H}(hr:HR m w h)(hw:Below w.heap.size w w'){g bt s cap n:Nat}{cur:Array Value}{es:List D}(hb:w'.heap[g]?=some (.cells cur bt (0,0)))(hg:w.heap.size≤g)
  (hp:PRE m w s es cur) (h0:0<s) (hcs:cur.size=cap*s) (hn:es.length=n) (hcap:n≤cap) (hmax:cap≤maxLen) (hrefs:es.all (D.refsB h.next)=true) :
  Eff m w h (.row h.next 0 n n) (.slice (some ⟨g,0,none⟩) n cap) w' (h.push (.row bt s es)) (m.upd h.next (some ⟨g,es.length,s,cap⟩)):=by
 obtain ⟨r1,r2⟩:=push_row hr hw hb hg hp h0 hcs (by omega) hmax hrefs
 refine ⟨r1,?_,r2,by simp [D.refsB,H.push],by simp [H.push],rfl⟩
 rw [hn];exact push_slice (Nat.le_refl _) hcap
theorem HR.move {m:M}{w w':World}{h:H}(hr:HR m w h){id:Nat}{x x':MI}{o o':AObj}(hx:m id=some x)(hblk:x'.blk=x.blk)
   (hos:w'.os=w.os) (htape:w'.tape=w.tape) (hout:w'.output=w.output) (hsize:w.heap.size≤w'.heap.size) (hkeep:∀ k,k<w.heap.size→k≠x.blk→w'.heap[k]? = w.heap[k]?)
   (ho:Ext h.next m w ((m.upd id none).upd h.next (some x')) w'→OR ((m.upd id none).upd h.next (some x')) w' x' o') (hb:o'.refsB h.next=true) :
   HR ((m.upd id none).upd h.next (some x')) w' ((h.del id).push o')∧Ext h.next m w ((m.upd id none).upd h.next (some x')) w':=by
 have hidn:id<h.next:=(hr.dom id x hx).2
 have hmk:∀ i,i≠h.next→i≠id→(m.upd id none).upd h.next (some x') i=m i:=fun i h1 h2=>by rw [M.upd_ne _ _ h1,M.upd_ne _ _ h2]
 have hext:Ext h.next m w ((m.upd id none).upd h.next (some x')) w':=by
   refine ⟨hos,htape,hout,hsize,fun k hk hS=>hkeep k hk fun e=>hS ⟨id,x,hx,e.symm⟩,rfl,fun i y hi hy=>?_,fun i y hy=>?_⟩
   · rw [M.upd_ne _ _ (by omega)] at hy
     by_cases e:i=id
     · subst e; rw [M.upd_same] at hy; cases hy
     · rw [M.upd_ne _ _ e] at hy; exact ⟨y,hy,.inl rfl⟩
   · by_cases e:i=h.next
     · subst e; rw [M.upd_same] at hy; obtain rfl:=Option.some.inj hy
       exact .inl ⟨id,x,hx,hblk.symm⟩
     · rw [M.upd_ne _ _ e] at hy
       by_cases e:i=id
       · subst e; rw [M.upd_same] at hy; cases hy
       · rw [M.upd_ne _ _ e] at hy; exact .inl ⟨i,y,hy,rfl⟩
 have hobj:∀ i o,((h.del id).push o').objs i=some o→(i=h.next∧o=o')∨(i≠h.next∧i≠id∧h.objs i=some o):=by
   intro i o hi;by_cases e:i=h.next
   · subst e
     have:((h.del id).push o').objs h.next=some o':=upd_same _ _ _
     rw [this] at hi;exact .inl ⟨rfl,(Option.some.inj hi).symm⟩
   · have e2:((h.del id).push o').objs i=upd h.objs id none i:=upd_ne _ _ e
     rw [e2] at hi;by_cases e':i=id
     · subst e'; rw [upd_same] at hi; cases hi
     · rw [upd_ne _ _ e'] at hi; exact .inr ⟨e,e',hi⟩
 refine ⟨⟨fun i o hi=>?_,fun i y hy=>?_,fun i i' y y' hy hy' hbb=>?_,fun i y hy=>?_,fun k hk=>Nat.lt_of_lt_of_le (hr.old k hk) hsize,fun i o hi=>?_,fun mk hmk'=>⟨Nat.le_succ_of_le (hr.marks mk hmk').1,fun i o hi hlt=>?_⟩,hr.glob.step hext⟩,hext⟩
 · rcases hobj i o hi with ⟨rfl,rfl⟩|⟨e1,e2,h3⟩
   · exact ⟨x',M.upd_same _ _ _,ho hext⟩
   · obtain ⟨y,hy,hor⟩:=hr.obj i o h3
     exact ⟨y,by rw [hmk i e1 e2]; exact hy,hor.ext hext (hr.below i o h3) (hkeep _ (hr.lt hy) fun e=>e2 (hr.inj i id y x hy hx e))⟩
 · by_cases e:i=h.next
   · subst e
     exact ⟨by simp [H.push,H.del,upd_same],Nat.lt_succ_self _⟩
   · rw [M.upd_ne _ _ e] at hy
     by_cases e':i=id
     · subst e'; rw [M.upd_same] at hy; cases hy
     · rw [M.upd_ne _ _ e'] at hy
       obtain ⟨h1,h2⟩:=hr.dom i y hy;exact ⟨by simpa [H.push,H.del,upd_ne _ _ e,upd_ne _ _ e'] using h1,Nat.lt_succ_of_lt h2⟩
 · have key:∀ i y,i≠h.next→(m.upd id none).upd h.next (some x') i=some y→i≠id∧m i=some y:=by
     intro i y e hy;rw [M.upd_ne _ _ e] at hy;by_cases e':i=id
     · subst e'; rw [M.upd_same] at hy; cases hy
     · rw [M.upd_ne _ _ e'] at hy; exact ⟨e',hy⟩
   by_cases e:i=h.next
   · by_cases e':i'=h.next
     · exact e.trans e'.symm
     · exfalso
       subst e;rw [M.upd_same] at hy;obtain rfl:=Option.some.inj hy;obtain ⟨a,b⟩:=key i' y' e' hy';exact a (hr.inj i' id y' x b hx (by rw [←hbb,hblk]))
   · by_cases e':i'=h.next
     · exfalso
       subst e';rw [M.upd_same] at hy';obtain rfl:=Option.some.inj hy';obtain ⟨a,b⟩:=key i y e hy;exact a (hr.inj i id y x b hx (by rw [hbb,hblk]))
     · obtain ⟨_,b⟩:=key i y e hy
       obtain ⟨_,b'⟩:=key i' y' e' hy';exact hr.inj i i' y y' b b' hbb
 · by_cases e:i=h.next
   · subst e
     rw [M.upd_same] at hy;obtain rfl:=Option.some.inj hy;rw [hblk];exact hr.far id x hx
   · rw [M.upd_ne _ _ e] at hy
     by_cases e':i=id
     · subst e'; rw [M.upd_same] at hy; cases hy
     · rw [M.upd_ne _ _ e'] at hy
       exact hr.far i y hy
 · rcases hobj i o hi with ⟨rfl,rfl⟩|⟨e1,e2,h3⟩
   · exact AObj.refs_mono (Nat.le_succ _) hb
   · exact AObj.refs_mono (Nat.le_succ _) (hr.below i o h3)
 · rcases hobj i o hi with ⟨rfl,rfl⟩|⟨e1,e2,h3⟩
   · exact absurd hlt (Nat.not_lt.2 (hr.marks mk hmk').1)
   · exact (hr.marks mk hmk').2 i o h3 hlt
theorem all_append {n:Nat}{a b:List D}(h1:a.all (D.refsB n)=true)(h2:b.all (D.refsB n)=true):(a++b).all (D.refsB n)=true:=by simp [List.all_append,h1,h2]
theorem all_take {n k:Nat}{a:List D}(h1:a.all (D.refsB n)=true):(a.take k).all (D.refsB n)=true:=by
 rw [List.all_eq_true] at h1 ⊢;exact fun x hx=>h1 x (List.mem_of_mem_take hx)
theorem appendD_sound {m:M}{w:World}{h h':H}{t u ty:TypeId}{a x p:D}{av xv:Value}(hr:HR m w h)(ha:VR m w a av)(hx:VR m w x xv)(hra:a.refsB h.next=true)
  (hu:(∃ e',P.underlying u=some (.slice e'))∨P.underlying u=some .string) (h1:appendD P h t a x=some (p,h')) :
  ∃ v w' m',(Builtin.append_ #[t,u] ty #[av,xv]).run P w = .ok v w'∧Eff m w h p v w' h' m':=by
 unfold appendD at h1
 cases hk:tk P t with
 | slice e =>
  simp only [hk] at h1;have hk':=tk_slice hk
  cases hs:sz P e with
  | none=>simp [hs] at h1
  | some s =>
  cases hb:byt P e with
  | none=>simp [hs,hb] at h1
  | some b =>
  cases hz:zeroT P e with
  | none=>simp [hs,hb,hz] at h1
  | some z =>
  cases hsrc:sourceD h x with
  | none=>simp [hs,hb,hz,hsrc] at h1
  | some new =>
  simp only [hs,hb,hz,hsrc] at h1;obtain ⟨i,zv,hi,hzv,hzo⟩:=zeroT_some hz;obtain ⟨i',hi',his⟩:=sz_some hs;rw [hi] at hi';obtain rfl:=Option.some.inj hi';obtain ⟨i',hi',hib⟩:=byt_some hb;rw [hi] at hi';obtain rfl:=Option.some.inj hi';subst his hib;split at h1
  · rename_i hcond
    obtain ⟨c1,c2,c3⟩:=hcond;obtain ⟨s1,s2,s3⟩:=sourceD_sound (P:=P) hr hx hsrc c2 c3;have zl:zv.cells.size=i.size:=by
      have:=(ofVal_cv (m:=m) (w:=w) hzo).1;rw [←this]; simpa using c1
    have zsz:∀ n,(Builtin.zeroCells zv.cells n).size=n*i.size:=fun n=>by rw [size_zeroCells,zl]
    have hbel:∀ o,Below w.heap.size w (w.drew.alloc o):=fun o=>((Below.refl _ _).drew).alloc (Nat.le_refl _) o
    have hcapge:∀ need old,need≤grownCap w need old e:=fun need old=>grownCap_ge w need old e
    -- where it grows
    have grow:∀ (base:Option Addr) (len cap:Nat) (olds:List D) (oldv:Array Value),(Builtin.firstCells i.size len (.slice base len cap)).run P w.drew = .ok oldv w.drew→EV m w i.size olds oldv→olds.length=len→olds.all (D.refsB h.next)=true→cap<len+new.length →
        (len+new.length)*i.bytes≤140737488355328→len+new.length<140737488355328→∃ news:Array Value,EV m w i.size new news ∧
        (Builtin.append_ #[t,u] ty #[.slice base len cap,xv]).run P w = .ok (.slice (some ⟨w.heap.size,0,none⟩) (len+new.length) (grownCap w (len+new.length) cap e))
          (w.drew.alloc (.cells (oldv++news++Builtin.zeroCells zv.cells (grownCap w (len+new.length) cap e-(len+new.length))) e)) ∧
        PRE m w i.size (olds++new) (oldv++news++Builtin.zeroCells zv.cells (grownCap w (len+new.length) cap e-(len+new.length))) ∧
        (oldv++news++Builtin.zeroCells zv.cells (grownCap w (len+new.length) cap e-(len+new.length))).size=grownCap w (len+new.length) cap e*i.size∧grownCap w (len+new.length) cap e≤maxLen:=by
      intro base len cap olds oldv hold hev hol hor hroom hby h63;obtain ⟨news,q1,q2⟩:=s2 new.length (Nat.le_refl _) w.drew rfl;have q3:=q2.take_self rfl;refine ⟨news,q3,append_grow_run hk' hi hzv hu (s1 w) hold q1 hroom hby h63 (.inr trivial),(hev.pre.cat hev.1 q3.pre).append,?_,grownCap_le_maxLen w _ _ e (by simp only [maxLen]; omega)⟩
      have hge:=hcapge (len+new.length) cap;rw [Array.size_append,Array.size_append,hev.1,q3.1,zsz,hol,←Nat.add_mul,←Nat.add_mul];congr 1;omega
    split at h1
    · cases ha with
      | t ha =>
      cases ha;split at h1
      · rename_i hfit
        obtain ⟨f1,f2⟩:=hfit;split at h1
        · rename_i hn0
          simp only [Option.some.injEq,Prod.mk.injEq] at h1;obtain ⟨rfl,rfl⟩:=h1;obtain ⟨news,q1,q2⟩:=s2 0 (Nat.zero_le _) w rfl;have hl0:=s1 w;rw [hn0] at hl0;exact ⟨_,_,m,append_none_run hk' hi hu hl0 q1,hr,.t .nilSlice,Ext.refl _ _ _,rfl,Nat.le_refl _,rfl⟩
        · rename_i hn0
          simp only [Option.some.injEq,Prod.mk.injEq] at h1;obtain ⟨rfl,rfl⟩:=h1;obtain ⟨news,g1,g2,g3,g4,g5⟩:=grow none 0 0 [] #[] (by simp [Builtin.firstCells]) ⟨by simp,fun i d hd=>by simp at hd,fun i j d c hd=>by simp at hd⟩ rfl rfl (by omega) (by simpa using f1) (by simpa using f2)
          simp only [Nat.zero_add,List.nil_append] at g2 g3 g4 g5;exact ⟨_,_,_,g2,eff_push hr (hbel _) (heap_alloc_new w.drew _) (Nat.le_refl _) g3 c2 g4 rfl (hcapge _ _) g5 s3⟩
      · cases h1
    · rename_i id len top
      cases he:h.els id top with
      | none=>simp [he] at h1
      | some y =>
        obtain ⟨bt,s',es⟩:=y;simp only [he] at h1;split at h1
        · rename_i hcond
          obtain ⟨d1,d2,d3,d4,d5,d6⟩:=hcond;subst d1 d2;obtain ⟨x,hx',htop,hxs,hor,hob,hlen⟩:=els_at hr he;have hold:=hr.below id _ hob;obtain ⟨o1,o2,o3,o4,o5,cur,hcb,hcs,hds,hcells⟩:=hor
          cases ha with
          | row hone hp =>
          obtain ⟨_,hp'⟩:=hp x hx';obtain ⟨hit,ad,cap,rfl,hlc,hcx,had⟩:=hp' htop;have hcur:PRE m w i.size es cur:=⟨hds,hcells⟩;have hdom:=(hr.dom id x hx').2;by_cases hroom:len+new.length≤cap
          · -- there is room
            obtain ⟨news,q1,q2⟩:=s2 new.length (Nat.le_refl _) w rfl;have q3:=q2.take_self rfl;have hsz3:len*i.size+news.toList.length≤cur.size:=by
              rw [Array.length_toList,q3.1,←Nat.add_mul,hcs];exact Nat.mul_le_mul_right _ (by omega)
            have hnone:∀ (k:Nat) (v:Value),news[k]?=some v→v.oneCell'=true:=by
              intro k v hk;have hklt:k<new.length*i.size:=by rw [←q3.1]; exact (Array.getElem?_eq_some_iff.1 hk).1
              have hi1:k/i.size<new.length:=(Nat.div_lt_iff_lt_mul c2).2 hklt;have hj1:k%i.size<i.size:=Nat.mod_lt _ c2;have hdl:=q3.2.1 _ _ (List.getElem?_eq_getElem hi1);have hj2:k%i.size<new[k/i.size].cells.length:=by rw [hdl]; exact hj1
              obtain ⟨v',hv',_,ho⟩:=q3.2.2 _ _ _ _ (List.getElem?_eq_getElem hi1) (List.getElem?_eq_getElem hj2);have:k/i.size*i.size+k%i.size=k:=by rw [Nat.mul_comm]; exact Nat.div_add_mod k i.size
              rw [this,hk] at hv';cases hv';exact ho
            have hst:(storeCells (ad.add (len*i.size)) news.toList).run P w = .ok () (w.setRow x.blk (splice cur.toList (len*i.size) news.toList).toArray):=by
              by_cases hcap0:cap=0
              · have hn0:new.length=0:=by omega
                have hnews:news = #[]:=by
                  have:=q3.1;rw [hn0,Nat.zero_mul] at this;exact Array.eq_empty_of_size_eq_zero this
                subst hnews;have:(splice cur.toList (len*i.size) ([]:List Value)).toArray=cur:=by simp [splice]
                rw [this,setRow_self w x.blk cur bt (0,0) hcb];rfl
              · rw [had (by omega),Nat.zero_mul,lit_add,Nat.zero_add]
                have:=run_storeCells_at P x.blk (len*i.size) bt news.toList 0 cur w hcb (by simpa using hsz3) (fun v hv=>by
                  obtain ⟨k,hk⟩:=List.getElem?_of_mem hv;exact hnone k v (by simpa using hk))
                simpa [splice] using this
            have hrun:=append_room_run (ty:=ty) hk' hi hu (s1 w) q1 hroom hst;have hsp:=splice_get cur.toList (len*i.size) news.toList (by simpa using hsz3)
            -- the object's new elements
            have hpre:∀ {n:Nat} {m':M} {w':World},Ext n m w m' w'→n=h.next→PRE m' w' i.size (es.take len++new) (splice cur.toList (len*i.size) news.toList).toArray:=by
              intro n m' w' hext hnn;subst hnn;have e1:=(hcur.take len).ext hext (all_take hold);have e2:=q3.pre.ext hext s3;have htl:(es.take len).length=len:=by simp; omega
              refine ⟨fun k d hd=>?_,fun k j d c hd hc=>?_⟩
              · rcases Nat.lt_or_ge k len with hk1|hk1
                · rw [List.getElem?_append_left (by omega)] at hd; exact e1.1 k d hd
                · rw [List.getElem?_append_right (by omega)] at hd; exact e2.1 _ d hd
              · have hjs:j<i.size:=by
                  have:=(List.getElem?_eq_some_iff.1 hc).1;rcases Nat.lt_or_ge k len with hk1|hk1
                  · rw [List.getElem?_append_left (by omega)] at hd; have:=e1.1 k d hd; omega
                  · rw [List.getElem?_append_right (by omega)] at hd; have:=e2.1 _ d hd; omega
                simp only [List.getElem?_toArray];rw [(hsp _).1];rcases Nat.lt_or_ge k len with hk1|hk1
                · rw [List.getElem?_append_left (by omega)] at hd
                  obtain ⟨v,hv,hvr,ho⟩:=e1.2 k j d c hd hc;have:=idx_lt (s:=i.size) hk1 hjs;exact ⟨v,by rw [if_neg (by omega)]; simpa using hv,hvr,ho⟩
                · rw [List.getElem?_append_right (by omega),htl] at hd
                  obtain ⟨v,hv,hvr,ho⟩:=e2.2 _ j d c hd hc;have hlt:=(Array.getElem?_eq_some_iff.1 hv).1;have hle:len*i.size≤k*i.size:=Nat.mul_le_mul_right _ hk1;have heq:k*i.size+j-len*i.size=(k-len)*i.size+j:=by rw [Nat.mul_sub_right_distrib]; omega
                  refine ⟨v,?_,hvr,ho⟩;rw [if_pos ⟨by omega,by simp only [Array.length_toList]; omega⟩,heq]
                  simpa using hv
            have hcs':(splice cur.toList (len*i.size) news.toList).toArray.size=x.cap*i.size:=by
              simp only [List.size_toArray];rw [(hsp 0).2];simpa using hcs
            have hl':(es.take len++new).length=len+new.length:=by simp; omega
            split at h1
            · rename_i hlt
              simp only [Option.some.injEq,Prod.mk.injEq] at h1;obtain ⟨rfl,rfl⟩:=h1;have htk:es.take len=es:=List.take_of_length_le (by omega)
              rw [htk] at hpre hl';have hturn:=hr.turn (w':=w.setRow x.blk (splice cur.toList (len*i.size) news.toList).toArray) (id:=id) (x':=⟨x.blk,len+new.length,i.size,x.cap⟩) (o':=.row bt i.size (es++new)) (n':=h.next)
                rfl rfl rfl (by simp [World.setRow]) (fun k hk hne=>setRow_other' w x.blk k _ (hne x hx')) hdom (Nat.le_refl _) (fun e=>by rw [hx'] at e; cases e)
                (fun y hy=>by
                  rw [hx'] at hy;obtain rfl:=Option.some.inj hy;by_cases hn0:new.length=0
                  · left
                    cases x;simp only at htop hxs;subst hxs;simp only [MI.mk.injEq,true_and,and_true];omega
                  · right; exact ⟨by simp only; omega,by omega,by simp only; omega⟩) (.inr ⟨x,hx',rfl⟩)
                (fun hext=>⟨rfl,c2,hl'.symm,by simp only; omega,o5,_,setRow_heap w x.blk cur _ bt _ hcb,hcs',(hpre hext rfl).1,(hpre hext rfl).2⟩)
                (all_append hold s3) (fun mk hmk hlt=>all_append ((hr.marks mk hmk).2 id _ hob hlt) (by
                  rw [List.all_eq_true];exact mays_refs d6 mk hmk hlt))
              obtain ⟨t1,t2⟩:=hturn;refine ⟨_,_,_,hrun,t1,?_,t2,decide_eq_true hdom,Nat.le_refl _,rfl⟩;refine .row rfl fun y hy=>?_
              rw [M.upd_same] at hy;obtain rfl:=Option.some.inj hy;exact ⟨Nat.le_refl _,fun _=>⟨by omega,ad,cap,rfl,hroom,hcx,fun hc0=>by rw [had hc0,hxs]⟩⟩
            · rename_i hne
              simp only [Option.some.injEq,Prod.mk.injEq] at h1;obtain ⟨rfl,rfl⟩:=h1;obtain ⟨t1,t2⟩:=hr.move (w':=w.setRow x.blk (splice cur.toList (len*i.size) news.toList).toArray) (x':=⟨x.blk,len+new.length,i.size,x.cap⟩) (o':=.row bt i.size (es.take len++new)) (o:=.row bt i.size es) hx' rfl
                rfl rfl rfl (by simp [World.setRow]) (fun k hk hne=>setRow_other' w x.blk k _ hne)
                (fun hext=>⟨rfl,c2,hl'.symm,by simp only; omega,o5,_,setRow_heap w x.blk cur _ bt _ hcb,hcs',(hpre hext rfl).1,(hpre hext rfl).2⟩)
                (all_append (all_take hold) s3)
              refine ⟨_,_,_,hrun,t1,?_,t2,by simp [D.refsB,H.push,H.del],by simp [H.push,H.del],rfl⟩
              refine .row rfl fun y hy=>?_
              rw [M.upd_same] at hy;obtain rfl:=Option.some.inj hy;exact ⟨Nat.le_refl _,fun _=>⟨by omega,ad,cap,rfl,hroom,hcx,fun hc0=>by rw [had hc0]; simp⟩⟩
          · -- it grows
            have hlen0:∃ oldv,(Builtin.firstCells i.size len (.slice (some ad) len cap)).run P w.drew = .ok oldv w.drew∧EV m w i.size (es.take len) oldv:=by
              have htl:(es.take len).length=len:=by simp; omega
              obtain ⟨oldv,r1,r2⟩:=load_rows (P:=P) (m:=m) (w:=w) (w':=w.drew) rfl (ad:=ad) (s:=i.size) (es:=es.take len) c2 (hcur.take len).1 (fun k j d c hd hc=>by
                obtain ⟨v,hv,hvr,ho⟩:=(hcur.take len).2 k j d c hd hc;have hk:k<len:=by have:=(List.getElem?_eq_some_iff.1 hd).1; omega
                refine ⟨v,?_,hvr,ho⟩;rw [had (by omega),Nat.zero_mul,lit_add,Nat.zero_add,cell_of_row w x.blk _ cur bt (0,0) hcb]
                exact hv)
              rw [htl] at r1;exact ⟨oldv,by simpa [Builtin.firstCells] using r1,r2⟩
            obtain ⟨oldv,v1,v2⟩:=hlen0;obtain ⟨news,g1,g2,g3,g4,g5⟩:=grow (some ad) len cap (es.take len) oldv v1 v2 (by simp; omega) (all_take hold) (by omega) d3 d4
            have hl':(es.take len++new).length=len+new.length:=by simp; omega
            split at h1
            · rename_i hlt
              simp only [Option.some.injEq,Prod.mk.injEq] at h1;obtain ⟨rfl,rfl⟩:=h1;have htk:es.take len=es:=List.take_of_length_le (by omega)
              rw [htk] at g3 hl';have hge:=hcapge (len+new.length) cap;have hturn:=hr.turn (w':=w.drew.alloc (.cells (oldv++news++Builtin.zeroCells zv.cells (grownCap w (len+new.length) cap bt-(len+new.length))) bt)) (id:=id)
                (x':=⟨w.heap.size,len+new.length,i.size,grownCap w (len+new.length) cap bt⟩) (o':=.row bt i.size (es++new)) (n':=h.next)
                (hbel _).os (hbel _).tape (hbel _).output (hbel _).size (fun k hk _=>(hbel _).block k hk) hdom (Nat.le_refl _) (fun e=>by rw [hx'] at e; cases e)
                (fun y hy=>by
                  rw [hx'] at hy;obtain rfl:=Option.some.inj hy;right;exact ⟨by simp only; omega,by omega,by simp only; omega⟩) (.inl (Nat.le_refl _))
                (fun hext=>⟨rfl,c2,hl'.symm,hge,g5,_,heap_alloc_new w.drew _,g4,(g3.ext hext (all_append hold s3)).1,(g3.ext hext (all_append hold s3)).2⟩)
                (all_append hold s3) (fun mk hmk hlt=>all_append ((hr.marks mk hmk).2 id _ hob hlt) (by
                  rw [List.all_eq_true];exact mays_refs d6 mk hmk hlt))
              obtain ⟨t1,t2⟩:=hturn;refine ⟨_,_,_,g2,t1,?_,t2,decide_eq_true hdom,Nat.le_refl _,rfl⟩;refine .row rfl fun y hy=>?_
              rw [M.upd_same] at hy;obtain rfl:=Option.some.inj hy;exact ⟨Nat.le_refl _,fun _=>⟨by omega,_,_,rfl,hge,by simp,fun _=>by simp⟩⟩
            · rename_i hne
              simp only [Option.some.injEq,Prod.mk.injEq] at h1;obtain ⟨rfl,rfl⟩:=h1;obtain ⟨d1,d2⟩:=hr.del id;have hin:∀ es':List D,PRE m w i.size es' (oldv++news++Builtin.zeroCells zv.cells (grownCap w (len+new.length) cap bt-(len+new.length)))→es'.all (D.refsB h.next)=true→PRE (m.upd id none) w i.size es' (oldv++news++Builtin.zeroCells zv.cells (grownCap w (len+new.length) cap bt-(len+new.length))) :=
                fun es' hp ha=>hp.ext d2 ha
              have hge:=hcapge (len+new.length) cap;have heff:=eff_push d1 (hbel (.cells (oldv++news++Builtin.zeroCells zv.cells (grownCap w (len+new.length) cap bt-(len+new.length))) bt)) (heap_alloc_new w.drew _) (Nat.le_refl _) (hin _ g3 (all_append (all_take hold) s3)) c2 g4 hl' hge g5 (all_append (all_take hold) s3);exact ⟨_,_,_,g2,heff.hr,heff.vr,d2.trans heff.ext (Nat.le_refl _),heff.refs,heff.next,heff.marks⟩
        · cases h1
    · cases h1
  · cases h1
 | _=>simp [hk] at h1
theorem zeroCells_made (z:Array Value)(n:Nat):Builtin.zeroCells z n=(Array.range (n*z.size)).map fun i=>z[i%z.size]!:=rfl
theorem appendZerosD_sound {m:M}{w:World}{h h':H}{t u ty:TypeId}{k:IntKind}{a x p:D}{av xv:Value}(hr:HR m w h)(ha:VR m w a av)(hx:VR m w x xv)(hu:P.underlying u=some (.int k))(h1:appendZerosD P h t a x=some (p,h')) :
   ∃ v w' m',(Builtin.append_ #[t,u] ty #[av,xv]).run P w = .ok v w'∧Eff m w h p v w' h' m':=by
 unfold appendZerosD at h1;split at h1
 · rename_i e n hk
   cases ha with
   | t ha =>
   cases ha
   cases hx with
   | t hx =>
   cases hx;have hk':=tk_slice hk
   cases hs:sz P e with
   | none=>simp [hs] at h1
   | some s =>
   cases hb:byt P e with
   | none=>simp [hs,hb] at h1
   | some b =>
   cases hz:zeroT P e with
   | none=>simp [hs,hb,hz] at h1
   | some z =>
   simp only [hs,hb,hz] at h1;obtain ⟨i,zv,hi,hzv,hzo⟩:=zeroT_some hz;obtain ⟨i',hi',his⟩:=sz_some hs;rw [hi] at hi';obtain rfl:=Option.some.inj hi';obtain ⟨i',hi',hib⟩:=byt_some hb;rw [hi] at hi';obtain rfl:=Option.some.inj hi';subst his hib;split at h1
   · rename_i hcond
     obtain ⟨c1,c2,c3,c4,c5⟩:=hcond;have hwrap:IntKind.i64.wrap n=n:=by rw [IntKind.wrap_i64]; omega
     have hn0:¬ n<0:=by omega
     have hbb:¬ (281474976710656<n*(i.bytes:Int)):=by
       have hcc:n=(n.toNat:Int):=by omega
       rw [hcc,←Int.natCast_mul];omega
     split at h1
     · rename_i hz0
       subst hz0;simp only [Option.some.injEq,Prod.mk.injEq] at h1;obtain ⟨rfl,rfl⟩:=h1;refine ⟨.slice none 0 0,w,m,?_,hr,.t .nilSlice,Ext.refl _ _ _,rfl,Nat.le_refl _,rfl⟩;simp [Builtin.append_,run_underlying hk',run_underlying hu,Go.sizeOf,typeInfo,hi,asInt,asIntOf,hwrap,zeroValue,hzv,Builtin.zeroCells]
     · rename_i hz0
       simp only [Option.some.injEq,Prod.mk.injEq] at h1;obtain ⟨rfl,rfl⟩:=h1;have hpos:0<n.toNat:=by omega
       have hcap:=nextcap_pos (need:=n.toNat) (old:=0) (b:=i.bytes) hpos c5;have h4:¬ (281474976710656<Builtin.nextslicecap n.toNat 0*i.bytes):=hcap;have hge:=grownCap_ge w n.toNat 0 e;have zl:zv.cells.size=i.size:=by
        have:=(ofVal_cv (m:=m) (w:=w) hzo).1;rw [←this]; simpa using c1
       have hnz:¬ n.toNat*i.size=0:=by intro e; rcases Nat.mul_eq_zero.1 e with e|e<;>omega
       have hrun:(Builtin.append_ #[t,u] ty #[.slice none 0 0,.int .i64 n]).run P w = .ok (.slice (some ⟨w.heap.size,0,none⟩) n.toNat (grownCap w n.toNat 0 e))
         (w.drew.alloc (.cells (Builtin.zeroCells zv.cells n.toNat++Builtin.zeroCells zv.cells (grownCap w n.toNat 0 e-n.toNat)) e)):=by
        have hmax:IntKind.i64.max=9223372036854775807:=by decide
        have h5:¬ ((n.toNat:Int)>IntKind.i64.max):=by rw [hmax]; omega
        have h6:¬ (9223372036854775807<max n 0):=by omega
        have h7:¬ n≤0:=by omega
        simp [Builtin.append_,run_underlying hk',run_underlying hu,Go.sizeOf,typeInfo,hi,asInt,asIntOf,hwrap,hn0,hbb,h4,h6,h7,hnz,Question.forced,grownCap,Builtin.firstCells,zeroValue,hzv,newRow]
       have hev:=EV.zeros (m:=m) (w:=w) (n:=n.toNat) hzo c1 c2;have hpre:PRE m w i.size (List.replicate n.toNat (.t z)) (Builtin.zeroCells zv.cells n.toNat++Builtin.zeroCells zv.cells (grownCap w n.toNat 0 e-n.toNat)):=by
        refine PRE.append ?_;rw [zeroCells_made,zl];rw [zl] at hev;exact hev.pre
       refine ⟨_,_,_,hrun,eff_push hr (((Below.refl _ _).drew).alloc (Nat.le_refl _) _) (heap_alloc_new w.drew _) (Nat.le_refl _) hpre c2 ?_ (by simp) hge (grownCap_le_maxLen w _ _ e (by simp only [maxLen]; omega)) (by simp [List.all_replicate,D.refsB])⟩
       rw [Array.size_append,size_zeroCells,size_zeroCells,zl,←Nat.add_mul];congr 1;omega
   · cases h1
 · cases h1
theorem copyD_sound {m:M}{w:World}{h h':H}{t u ty:TypeId}{a x p:D}{av xv:Value}(hr:HR m w h)(ha:VR m w a av)(hx:VR m w x xv)(h1:copyD P h t a x=some (p,h')) :
  ∃ v w' m',(Builtin.copy_ #[t,u] ty #[av,xv]).run P w = .ok v w'∧Eff m w h p v w' h' m':=by
 unfold copyD at h1
 cases hk:tk P t with
 | slice e =>
  simp only [hk] at h1;have hk':=tk_slice hk
  cases hs:sz P e with
  | none=>simp [hs] at h1
  | some s =>
  cases hsrc:sourceD h x with
  | none=>simp [hs,hsrc] at h1
  | some new =>
  simp only [hs,hsrc] at h1;split at h1
  · rename_i hcond
    obtain ⟨c2,c3⟩:=hcond;obtain ⟨s1,s2,s3⟩:=sourceD_sound (P:=P) hr hx hsrc c2 c3;split at h1
    · rename_i id i len top
      cases he:h.els id top with
      | none=>simp [he] at h1
      | some y =>
       obtain ⟨bt,s',es⟩:=y;simp only [he] at h1;split at h1
       · rename_i hcond
         obtain ⟨d1,d2,d3⟩:=hcond;simp only [Option.some.injEq,Prod.mk.injEq] at h1;obtain ⟨rfl,rfl⟩:=h1;obtain rfl:s=s':=d1.symm;obtain ⟨x,hx',htop,hxs,hor,hob,hlen⟩:=els_at hr he;have hold:=hr.below id _ hob;obtain ⟨o1,o2,o3,o4,o5,cur,hcb,hcs,hds,hcells⟩:=hor
         cases ha with
         | row hone hp =>
         obtain ⟨_,hp'⟩:=hp x hx';obtain ⟨hit,ad,cap,rfl,hlc,hcx,had⟩:=hp' htop;have hcur:PRE m w s es cur:=⟨hds,hcells⟩;have hdom:=(hr.dom id x hx').2
         let n:=min new.length len
         obtain ⟨news,q1,q2⟩:=s2 n (Nat.min_le_left _ _) w rfl;have hnl:(new.take n).length=n:=by simp [n]
         have hq3:=q2.1;rw [hnl] at hq3;have hsz3:i*s+news.toList.length≤cur.size:=by
          rw [Array.length_toList,hq3,←Nat.add_mul,hcs];exact Nat.mul_le_mul_right _ (by simp only [n]; omega)
         have hnone:∀ (k:Nat) (v:Value),news[k]?=some v→v.oneCell'=true:=by
          intro k v hk;have hklt:k<n*s:=by rw [←hq3]; exact (Array.getElem?_eq_some_iff.1 hk).1
          have hi1:k/s<(new.take n).length:=by rw [hnl]; exact (Nat.div_lt_iff_lt_mul c2).2 hklt
          have hj1:k%s<s:=Nat.mod_lt _ c2;have hdl:=q2.2.1 _ _ (List.getElem?_eq_getElem hi1);have hj2:k%s<(new.take n)[k/s].cells.length:=by rw [hdl]; exact hj1
          obtain ⟨v',hv',_,ho⟩:=q2.2.2 _ _ _ _ (List.getElem?_eq_getElem hi1) (List.getElem?_eq_getElem hj2);have:k/s*s+k%s=k:=by rw [Nat.mul_comm]; exact Nat.div_add_mod k s
          rw [this,hk] at hv';cases hv';exact ho
         have hst:(storeCells ad news.toList).run P w = .ok () (w.setRow x.blk (splice cur.toList (i*s) news.toList).toArray):=by
          by_cases hcap0:cap=0
          · have hn0:n=0:=by simp only [n]; omega
            have hnews:news = #[]:=by
              rw [hn0,Nat.zero_mul] at hq3;exact Array.eq_empty_of_size_eq_zero hq3
            subst hnews;have:(splice cur.toList (i*s) ([]:List Value)).toArray=cur:=by simp [splice]
            rw [this,setRow_self w x.blk cur bt (0,0) hcb];rfl
          · rw [had (by omega),hxs]
            have:=run_storeCells_at P x.blk (i*s) bt news.toList 0 cur w hcb (by simpa using hsz3) (fun v hv=>by
              obtain ⟨k,hk⟩:=List.getElem?_of_mem hv;exact hnone k v (by simpa using hk))
            simpa [splice] using this
         have hrun:(Builtin.copy_ #[t,u] ty #[.slice (some ad) len cap,xv]).run P w = .ok (goInt n) (w.setRow x.blk (splice cur.toList (i*s) news.toList).toArray):=by
          have hmin:Nat.min new.length len=n:=rfl;simp [Builtin.copy_,run_underlying hk',s1,run_sz hs,hmin,q1,hst]
         have hsp:=splice_get cur.toList (i*s) news.toList (by simpa using hsz3)
         have hse:=splice_get es i (new.take n) (by rw [hnl]; simp only [n]; omega)
         have hpre:∀ {k:Nat} {m':M} {w':World},Ext k m w m' w'→k=h.next→PRE m' w' s (splice es i (new.take n)) (splice cur.toList (i*s) news.toList).toArray:=by
          intro k m' w' hext hkk;subst hkk;have e1:=hcur.ext hext hold;have e2:=(show PRE m w s (new.take n) news from q2.2).ext hext (all_take s3)
          refine ⟨fun k d hd=>?_,fun k j d c hd hc=>?_⟩
          · rw [(hse k).1] at hd
            split at hd
            · exact e2.1 _ d hd
            · exact e1.1 k d hd
          · rw [(hse k).1,hnl] at hd
            simp only [List.getElem?_toArray];rw [(hsp _).1];simp only [Array.length_toList,hq3];split at hd
            · rename_i hk
              obtain ⟨v,hv,hvr,ho⟩:=e2.2 _ j d c hd hc;have hjs:j<s:=by have:=(List.getElem?_eq_some_iff.1 hc).1; have:=e2.1 _ d hd; omega
              have hle:i*s≤k*s:=Nat.mul_le_mul_right _ hk.1;have heq:k*s+j-i*s=(k-i)*s+j:=by rw [Nat.mul_sub_right_distrib]; omega
              have hlt:=idx_lt (s:=s) (i:=k-i) (n:=n) (by omega) hjs
              refine ⟨v,?_,hvr,ho⟩;rw [if_pos ⟨by omega,by omega⟩,heq]
              simpa using hv
            · rename_i hk
              obtain ⟨v,hv,hvr,ho⟩:=e1.2 k j d c hd hc;have hjs:j<s:=by have:=(List.getElem?_eq_some_iff.1 hc).1; have:=e1.1 k d hd; omega
              refine ⟨v,?_,hvr,ho⟩;rw [if_neg ?_]
              · simpa using hv
              · rintro ⟨a1,a2⟩
                rcases Nat.lt_or_ge k i with hlt|hge
                · have:=idx_lt (s:=s) hlt hjs; omega
                · have:(i+n)*s≤k*s:=Nat.mul_le_mul_right _ (by omega)
                  rw [Nat.add_mul] at this;omega
         have hturn:=hr.turn (w':=w.setRow x.blk (splice cur.toList (i*s) news.toList).toArray) (id:=id) (x':=x) (o':=.row bt s (splice es i (new.take n))) (n':=h.next)
          rfl rfl rfl (by simp [World.setRow]) (fun k hk hne=>setRow_other' w x.blk k _ (hne x hx')) hdom (Nat.le_refl _) (fun e=>by rw [hx'] at e; cases e)
          (fun y hy=>by rw [hx'] at hy; exact .inl (Option.some.inj hy)) (.inr ⟨x,hx',rfl⟩)
          (fun hext=>⟨hxs,c2,by rw [(hse 0).2]; omega,o4,o5,_,setRow_heap w x.blk cur _ bt _ hcb,by simp only [List.size_toArray]; rw [(hsp 0).2]; simpa using hcs,(hpre hext rfl).1,(hpre hext rfl).2⟩)
          (by
            simp only [AObj.refsB,splice,List.all_append,Bool.and_eq_true];refine ⟨⟨all_take hold,all_take s3⟩,?_⟩;rw [List.all_eq_true];simp only [AObj.refsB,List.all_eq_true] at hold;exact fun d hd=>hold d (List.mem_of_mem_drop hd))
          (fun mk hmk hlt=>by
            have h1:=(hr.marks mk hmk).2 id _ hob hlt;have h2:=mays_refs d3 mk hmk hlt;simp only [AObj.refsB,splice,List.all_append,Bool.and_eq_true];refine ⟨⟨all_take h1,List.all_eq_true.2 h2⟩,?_⟩;rw [List.all_eq_true];simp only [AObj.refsB,List.all_eq_true] at h1;exact fun d hd=>h1 d (List.mem_of_mem_drop hd))
         obtain ⟨t1,t2⟩:=hturn;have hupd:m.upd id (some x)=m:=by
          exact M.upd_self hx'
         rw [hupd] at t1 t2;exact ⟨_,_,_,hrun,t1,.t (.int _ _),t2,rfl,Nat.le_refl _,rfl⟩
       · cases h1
    · cases h1
  · cases h1
 | _=>simp [hk] at h1
end
end Vai

namespace Vai
open Go
open Go.RowKit (Below)
variable [Gl]
section
variable {P:Program}
theorem turn_obj {m:M}{w:World}{h:H}(hr:HR m w h){id:Nat}{x:MI}(hx:m id=some x){ob:AObj}(hob:h.objs id=some ob)(o:Obj)(o':AObj)
  (ho:∀ w',w'.heap[x.blk]?=some o→Ext h.next m w m w'→OR m w' x o') (hb:o'.refsB h.next=true) (hm:∀ mk∈h.marks,id<mk→o'.refsB mk=true) :
  HR m { w with heap:=w.heap.setIfInBounds x.blk o } (h.set id o')∧Ext h.next m w m { w with heap:=w.heap.setIfInBounds x.blk o }:=by
 have hlt:=hr.lt hx;have hturn:=hr.turn (w':={ w with heap:=w.heap.setIfInBounds x.blk o }) (id:=id) (x':=x) (o':=o') (n':=h.next) rfl rfl rfl (by simp)
  (fun k hk hne=>by simp only; rw [Array.getElem?_setIfInBounds_ne (fun e=>hne x hx e.symm)]) (hr.objLt hob) (Nat.le_refl _) (fun e=>by rw [hx] at e; cases e)
  (fun y hy=>by rw [hx] at hy; exact .inl (Option.some.inj hy)) (.inr ⟨x,hx,rfl⟩)
  (fun hext=>by rw [M.upd_self hx] at hext ⊢; exact ho _ (by simp [hlt]) hext) hb hm
 rw [M.upd_self hx] at hturn;exact hturn
theorem rangeD_sound {m:M}{w:World}{h h':H}{t:TypeId}{x d:D}{xv:Value}(hr:HR m w h)(hx:VR m w x xv)(hl:rangeD P h t x=some (d,h')) :
   ∃ v w' m',(Instr.range t xv).run P w = .ok v w'∧Eff m w h d v w' h' m':=by
 unfold rangeD at hl;split at hl
 · rename_i s
   split at hl
   · rename_i ht
     cases hl;have hu:=run_underlying (w:=w) (tk_str ht)
     cases hx with
     | t hx =>
     cases hx;obtain ⟨t1,t2⟩:=hr.push (x':=⟨w.heap.size,0,0,0⟩) (o':=.iter s 0) (below_alloc w (.stringIter s 0)) (Nat.le_refl _) (fun _=>⟨rfl,heap_alloc_new w _⟩) rfl
     refine ⟨.pointer (some ⟨w.heap.size,0,none⟩),w.alloc (.stringIter s 0),_,?_,t1,.iter rfl (fun x hx hs=>?_),t2,by simp [D.refsB,H.push],by simp [H.push],rfl⟩
     · simp [Instr.range,hu,newObj,Sem.run]
     · rw [M.upd_same] at hx
       cases hx;rfl
   · cases hl
 · cases hl
theorem nextD_sound {m:M}{w:World}{h h':H}{b:Bool}{x d:D}{xv:Value}(ty:TypeId)(hr:HR m w h)(hx:VR m w x xv)(hl:nextD h b x=some (d,h')) :
   ∃ v w' m',(Instr.next xv b ty).run P w = .ok v w'∧Eff m w h d v w' h' m':=by
 unfold nextD at hl;split at hl
 · rename_i id
   split at hl
   · rename_i s pos ho
     obtain ⟨mi,hmi,hs0,hblk⟩:=hr.obj id _ ho
     cases hx with
     | iter g1 g2 =>
     obtain rfl:=g2 mi hmi hs0;split at hl
     · rename_i hlt
       cases hl;obtain ⟨t1,t2⟩:=turn_obj hr hmi ho (.stringIter s (pos+(Utf8.decode s pos).2)) (.iter s (pos+(Utf8.decode s pos).2)) (fun w' hw' _=>⟨hs0,hw'⟩) rfl (fun _ _ _=>rfl)
       refine ⟨.tuple #[.bool true,.int .i64 pos,.int .i32 (Utf8.decode s pos).1],_,m,?_,t1,?_,t2,rfl,Nat.le_refl _,rfl⟩
       · simp [Instr.next,getObj,setObj,Sem.run,hblk,hlt,goInt]
       · refine .tup rfl fun i d' v' hd hv=>?_
         match i with
         | 0=>simp at hd hv; subst hd; subst hv; exact .t (.bool _)
         | 1=>simp at hd hv; subst hd; subst hv; exact .t (.int _ _)
         | 2=>simp at hd hv; subst hd; subst hv; exact .t (.int _ _)
         | i+3=>simp at hd
     · rename_i hlt
       cases hl;refine ⟨.tuple #[.bool false],w,m,?_,hr,?_,Ext.refl _ _ _,rfl,Nat.le_refl _,rfl⟩
       · simp [Instr.next,getObj,Sem.run,hblk,hlt]
       · refine .tup rfl fun i d' v' hd hv=>?_
         match i with
         | 0=>simp at hd hv; subst hd; subst hv; exact .t (.bool _)
         | i+1=>simp at hd
   · cases hl
 · cases hl
end
end Vai

namespace Vai
open Go
open Go.RowKit (Below)
variable [Gl]
section
variable {P:Program}
theorem tk_under {t:TypeId}{K:TK}(h:tk P t=K)(hne:K.isKey=true):∃ d,P.underlying t=some d∧TK.of d=K∧(∀ k,K = .int k→d = .int k)∧(K = .str→d = .string)∧(K = .bool→d = .bool):=by
 rw [tk_eq] at h;unfold tk0 at h
 cases hu:P.underlying t with
 | none=>rw [hu] at h; simp only at h; subst h; cases hne
 | some d =>
  rw [hu] at h;simp only at h;refine ⟨d,rfl,h,fun k hk=>?_,fun hk=>?_,fun hk=>?_⟩
  all_goals subst h
  all_goals cases d<;>simp [TK.of] at hk
  all_goals first|rfl|(subst hk; rfl)
theorem checkKey_run {kt:TypeId}(h:(tk P kt).isKey=true)(e:Bool)(v:Value)(w:World):(Instr.checkKey e 10000 kt v).run P w = .ok () w:=by
 obtain ⟨d,hu,hd,h1,h2,h3⟩:=tk_under rfl h;have hr:=run_underlying (w:=w) hu;obtain ⟨n,hn⟩:∃ n,10000=n+1:=⟨9999,rfl⟩;rw [hn];clear hn
 cases hk:tk P kt with
 | int k=>rw [h1 k hk] at hr; simp [Instr.checkKey,hr]
 | str=>rw [h2 hk] at hr; simp [Instr.checkKey,hr]
 | bool=>rw [h3 hk] at hr; simp [Instr.checkKey,hr]
 | _=>rw [hk] at h; cases h
theorem ba_beq (a b:ByteArray):(a == b)=decide (a=b):=by
 obtain ⟨x⟩:=a;obtain ⟨y⟩:=b;have:(({ data:=x }:ByteArray) == { data:=y })=(x == y):=rfl;rw [this];by_cases h:x=y
 · subst h; simp
 · have:¬ (({ data:=x }:ByteArray)={ data:=y }):=fun e=>h (by cases e; rfl)
   simp [h]
theorem findNow_sound {kd:TypeDesc}{k:T}{kv:Value}{w:World}{S:Nat→Prop}(hkv:TR w S k kv):∀ (ents:List (T × D × Nat)) (l:List MapEntry) (i0:Nat) (r:Option (Nat × D × Nat)),l.length=ents.length →
  (∀ (i:Nat) (k:T) (d:D) (b:Nat),ents[i]?=some (k,d,b)→∃ e:MapEntry,l[i]?=some e∧keyV k=some e.key)→(TK.of kd).isKey=true→findT (TK.of kd) k ents i0=some r →
  match r with
  | none=>Instr.findNow kd kv l i0=some none
  | some (i,d,b)=>∃ (j:Nat) (e:MapEntry) (k':T),i=i0+j∧ents[j]?=some (k',d,b)∧l[j]?=some e∧e.key=kv∧Instr.findNow kd kv l i0=some (some (i,e.val))
 | [],l,i0,r,hl,_,_,h=>by
  simp only [findT,Option.some.injEq] at h;subst h;obtain rfl:l=[]:=List.length_eq_zero_iff.1 hl;rfl
 | x::xs,l,i0,r,hl,hall,hK,h=>by
  obtain ⟨e,l',rfl⟩:∃ e l',l=e::l':=by
   cases l with
   | nil=>simp at hl
   | cons e l'=>exact ⟨e,l',rfl⟩
  obtain ⟨e0,he0,hke⟩:=hall 0 x.1 x.2.1 x.2.2 rfl;simp only [List.getElem?_cons_zero,Option.some.injEq] at he0;subst he0;simp only [findT] at h;have hsame:∀ b,keyEq (TK.of kd) k x.1=some b→Instr.sameNow kd kv e.key=some b∧(b=true→e.key=kv):=by
   intro b hb;unfold keyEq at hb;split at hb
   · rename_i q1 k1 a k2 b2 hq hx
     rw [hx] at hke;simp only [keyV,Option.some.injEq] at hke;have hkd:∃ kk,kd = .int kk:=by cases kd<;>simp [TK.of] at hq; exact ⟨_,rfl⟩
     obtain ⟨kk,rfl⟩:=hkd;cases hkv;rw [←hke];split at hb
     · rename_i e12
       subst e12;simp only [Option.some.injEq] at hb;subst hb;simp only [Instr.sameNow,if_true,eqI];exact ⟨by congr 1,fun h=>by rw [of_decide_eq_true h]⟩
     · cases hb
   · rename_i a b2 hq hx
     rw [hx] at hke;simp only [keyV,Option.some.injEq] at hke;have hkd:kd = .string:=by cases kd<;>simp [TK.of] at hq; rfl
     subst hkd;cases hkv;rw [←hke];simp only [Option.some.injEq] at hb;subst hb;simp only [Instr.sameNow,eqS];refine ⟨?_,fun h=>by rw [of_decide_eq_true h]⟩
     rw [ba_beq]
   · rename_i a b2 hq hx
     rw [hx] at hke;simp only [keyV,Option.some.injEq] at hke;have hkd:kd = .bool:=by cases kd<;>simp [TK.of] at hq; rfl
     subst hkd;cases hkv;rw [←hke];simp only [Option.some.injEq] at hb;subst hb;exact ⟨by simp [Instr.sameNow],fun h=>by simp only [beq_iff_eq] at h; rw [h]⟩
   · cases hb
  cases hq:keyEq (TK.of kd) k x.1 with
  | none=>rw [hq] at h; cases h
  | some b =>
   obtain ⟨s1,s2⟩:=hsame b hq;rw [hq] at h
   cases b with
   | true =>
     simp only [Option.some.injEq] at h;subst h;exact ⟨0,e,x.1,by omega,rfl,rfl,s2 rfl,by simp only [Instr.findNow,s1]⟩
   | false =>
     simp only at h;have ih:=findNow_sound (kd:=kd) hkv xs l' (i0+1) r (by simpa using hl) (fun i k d b hi=>by
       obtain ⟨e',he',hk'⟩:=hall (i+1) k d b (by simpa using hi)
       exact ⟨e',by simpa using he',hk'⟩) hK h
     cases r with
     | none=>simp only [Instr.findNow,s1]; exact ih
     | some r =>
       obtain ⟨i,d,b⟩:=r;obtain ⟨j,e',k',h1,h2,h3,h4,h5⟩:=ih;exact ⟨j+1,e',k',by omega,by simpa using h2,by simpa using h3,h4,by simp only [Instr.findNow,s1]; exact h5⟩
theorem findKey_run {kt:TypeId}{k:T}{kv:Value}{w:World}{S:Nat→Prop}(hkv:TR w S k kv){ents:List (T × D × Nat)}{arr:Array MapEntry}{r:Option (Nat × D × Nat)}(hl:arr.size=ents.length)
  (hall:∀ (i:Nat) (k:T) (d:D) (b:Nat),ents[i]?=some (k,d,b)→∃ e:MapEntry,arr[i]?=some e∧keyV k=some e.key) (hK:(tk P kt).isKey=true) (h:findT (tk P kt) k ents 0=some r) :
  match r with
  | none=>(Instr.findKey kt kv arr.toList).run P w = .ok none w
  | some (i,d,b)=>∃ (e:MapEntry) (k':T),ents[i]?=some (k',d,b)∧arr[i]?=some e∧e.key=kv∧(Instr.findKey kt kv arr.toList).run P w = .ok (some (i,e.val)) w:=by
 obtain ⟨kd,hu,hd,_⟩:=tk_under rfl hK;rw [←hd] at h hK;have hr:=run_underlying (w:=w) hu;have:=findNow_sound (kd:=kd) hkv ents arr.toList 0 r (by simpa using hl) (fun i k d b hi=>by
  obtain ⟨e,he,hk⟩:=hall i k d b hi;exact ⟨e,by simpa using he,hk⟩) hK h
 cases r with
 | none=>simp only at this ⊢; simp [Instr.findKey,hr,this]
 | some r =>
  obtain ⟨i,d,b⟩:=r;obtain ⟨j,e,k',h1,h2,h3,h4,h5⟩:=this;obtain rfl:i=j:=by omega
  exact ⟨e,k',h2,by simpa using h3,h4,by simp [Instr.findKey,hr,h5]⟩
theorem map_at {m:M}{w:World}{h:H}(hr:HR m w h){id:Nat}{v:Value}(hv:VR m w (.map id) v){ents:List (T × D × Nat)}{clock:Nat}(ho:h.objs id=some (.map ents clock)) :
  ∃ (x:MI) (arr:Array MapEntry),m id=some x∧x.s=0∧v = .map (some x.blk)∧w.heap[x.blk]?=some (.map arr clock)∧arr.size=ents.length ∧
   (∀ (i:Nat) (k:T) (d:D) (b:Nat),ents[i]?=some (k,d,b)→∃ e:MapEntry,arr[i]?=some e∧keyV k=some e.key∧VR m w d e.val∧e.born=b)∧(getObj x.blk).run P w = .ok (.map arr clock) w:=by
 obtain ⟨x,hx,h1,arr,h2,h3,h4⟩:=hr.obj id _ ho
 cases hv with
 | map g1 g2=>exact ⟨x,arr,hx,h1,g2 x hx h1,h2,h3,h4,by simp [getObj,Sem.run,h2]⟩
theorem okD_vr {m:M}{w:World}{d:D}{v:Value}(h:VR m w d v)(ok b:Bool):VR m w (okD ok d b) (if ok then .tuple #[v,.bool b] else v):=by
 cases ok with
 | false=>exact h
 | true =>
  simp only [okD,if_true];refine .tup rfl fun i d' v' hd hv=>?_
  match i with
  | 0=>simp at hd hv; subst hd; subst hv; exact h
  | 1=>simp at hd hv; subst hd; subst hv; exact .t (.bool _)
  | i+2=>simp at hd
theorem okD_refs {n:Nat}{d:D}(h:d.refsB n=true)(ok b:Bool):(okD ok d b).refsB n=true:=by
 cases ok<;>simp [okD,D.refsB,D.refsB.refsL,h]
theorem lookupD_sound {m:M}{w:World}{h:H}{t:TypeId}{ok:Bool}{x k d:D}{xv kv:Value}(hr:HR m w h)(hx:VR m w x xv)(hk:VR m w k kv)(hl:lookupD P h t ok x k=some d) :
   ∃ v,(Instr.lookup t xv kv ok).run P w = .ok v w∧VR m w d v∧d.refsB h.next=true:=by
 unfold lookupD at hl;split at hl
 · rename_i kt et ht
   have hu:=run_underlying (w:=w) (tk_map ht);split at hl
   · rename_i z kk hz
     obtain ⟨zv,hzr,hzo⟩:=run_zeroT (P:=P) hz w;split at hl
     · rename_i hK
       cases hk with
       | t hkt =>
       have hc:=fun e=>checkKey_run (P:=P) (kt:=kt) hK e kv w
       split at hl
       · cases hl
         cases hx with
         | t hx =>
           cases hx;have hf:(Instr.findKey kt kv []).run P w = .ok none w:=findKey_run (arr:=#[]) (ents:=[]) hkt rfl (fun i k d b h=>by simp at h) hK rfl
           refine ⟨if ok then .tuple #[zv,.bool false] else zv,?_,okD_vr (.t (ofVal_tr hzo)) _ _,okD_refs rfl _ _⟩
           cases ok<;>simp [Instr.lookup,hu,hc,hf,hzr]
       · rename_i id
         split at hl
         · rename_i ents clock ho
           obtain ⟨mi,arr,g1,g2,rfl,g4,g5,g6,g7⟩:=map_at (P:=P) hr hx ho;split at hl
           · rename_i i d0 b hf
             cases hl;obtain ⟨e,k',q1,q2,q3,q4⟩:=findKey_run (P:=P) (w:=w) hkt g5 (fun i k d b hi=>(g6 i k d b hi).elim fun e he=>⟨e,he.1,he.2.1⟩) hK hf
             obtain ⟨e',r1,r2,r3,r4⟩:=g6 i k' d0 b q1;rw [q2] at r1;cases r1;refine ⟨if ok then .tuple #[e.val,.bool true] else e.val,?_,okD_vr r3 _ _,okD_refs ?_ _ _⟩
             · cases ok<;>simp [Instr.lookup,hu,hc,q4,g7]
             · have:=hr.below id _ ho
               exact all_get (p:=fun e:T × D × Nat=>e.2.1.refsB h.next) (l:=ents) this q1
           · rename_i hf
             cases hl;have q:=findKey_run (P:=P) (w:=w) hkt g5 (fun i k d b hi=>(g6 i k d b hi).elim fun e he=>⟨e,he.1,he.2.1⟩) hK hf
             refine ⟨if ok then .tuple #[zv,.bool false] else zv,?_,okD_vr (.t (ofVal_tr hzo)) _ _,okD_refs rfl _ _⟩
             simp only at q;cases ok<;>simp [Instr.lookup,hu,hc,q,g7,hzr]
           · cases hl
         · cases hl
       · cases hl
     · cases hl
   · cases hl
 · cases hl
theorem setObj_run {w:World}{r:Nat}{o o':Obj}(h:w.heap[r]?=some o)(hc:∀ c e f,o ≠ .cells c e f):(setObj r o').run P w = .ok () { w with heap:=w.heap.setIfInBounds r o' }:=by
 simp only [setObj,Sem.run,h]
theorem keyV_key {k:T}{kv:Value}{w:World}{S:Nat→Prop}(h:TR w S k kv)(hk:isKeyT k=true):keyV k=some kv:=by
 cases h<;>first|rfl|cases hk
theorem keyThatStays_run {v:Value}{k:T}(hk:keyV k=some v)(w:World):(Instr.keyThatStays v v).run P w = .ok v w:=by
 have:Instr.sameBits 10000 v v=true:=by
  cases k<;>simp [keyV] at hk<;>subst hk<;>simp [Instr.sameBits,ba_beq]
 simp [Instr.keyThatStays,this]
theorem may_refs {h:H}{id:Nat}{d:D}(hm:h.may id d=true):∀ mk∈h.marks,id<mk→d.refsB mk=true:=by
 intro mk hmk hlt;have h1:=List.all_eq_true.1 hm mk hmk;simpa [hlt] using h1
theorem all_set {n:Nat}{ents:List (T × D × Nat)}(h:ents.all (fun e=>e.2.1.refsB n)=true){i:Nat}{k:T}{d:D}{b:Nat}(hd:d.refsB n=true):(ents.set i (k,d,b)).all (fun e=>e.2.1.refsB n)=true:=by
 rw [List.all_eq_true] at h ⊢;intro e he;rcases List.mem_or_eq_of_mem_set he with h1|rfl
 · exact h e h1
 · exact hd
theorem all_snoc {n:Nat}{ents:List (T × D × Nat)}(h:ents.all (fun e=>e.2.1.refsB n)=true){k:T}{d:D}{b:Nat}(hd:d.refsB n=true):(ents ++ [(k,d,b)]).all (fun e=>e.2.1.refsB n)=true:=by
 rw [List.all_append,h]; simp [hd]
theorem ents_ext {n:Nat}{m m':M}{w w':World}{ents:List (T × D × Nat)}{arr:Array MapEntry}(hE:Ext n m w m' w')(hb:ents.all (fun e=>e.2.1.refsB n)=true)
  (h:∀ (i:Nat) (k:T) (d:D) (b:Nat),ents[i]?=some (k,d,b)→∃ e:MapEntry,arr[i]?=some e∧keyV k=some e.key∧VR m w d e.val∧e.born=b) :
  ∀ (i:Nat) (k:T) (d:D) (b:Nat),ents[i]?=some (k,d,b)→∃ e:MapEntry,arr[i]?=some e∧keyV k=some e.key∧VR m' w' d e.val∧e.born=b:=fun i k d b hi=>by
 obtain ⟨e,h1,h2,h3,h4⟩:=h i k d b hi;exact ⟨e,h1,h2,hE.vr h3 (all_get (p:=fun e:T × D × Nat=>e.2.1.refsB n) (l:=ents) hb hi),h4⟩
theorem ents_set {m:M}{w:World}{ents:List (T × D × Nat)}{arr:Array MapEntry}{f:MapEntry→MapEntry}{i:Nat}{k:T}{d:D}{b:Nat}(hl:arr.size=ents.length)
   (h:∀ (i:Nat) (k:T) (d:D) (b:Nat),ents[i]?=some (k,d,b)→∃ e:MapEntry,arr[i]?=some e∧keyV k=some e.key∧VR m w d e.val∧e.born=b)
   (hf:∀ e,arr[i]?=some e→keyV k=some (f e).key∧VR m w d (f e).val∧(f e).born=b) :
   (arr.modify i f).size=(ents.set i (k,d,b)).length∧∀ (j:Nat) (k':T) (d':D) (b':Nat),(ents.set i (k,d,b))[j]?=some (k',d',b')→∃ e:MapEntry,(arr.modify i f)[j]?=some e∧keyV k'=some e.key∧VR m w d' e.val∧e.born=b':=by
 refine ⟨by simp [hl],fun j k' d' b' hj=>?_⟩
 rw [List.getElem?_set] at hj;split at hj
 · rename_i e
   subst e;split at hj
   · rename_i hlt
     cases hj;have hlt':i<arr.size:=by omega
     obtain ⟨q1,q2,q3⟩:=hf arr[i] (by simp [hlt'])
     exact ⟨f arr[i],by rw [Array.getElem?_modify,if_pos rfl,Array.getElem?_eq_getElem hlt']; rfl,q1,q2,q3⟩
   · cases hj
 · rename_i hne
   obtain ⟨e,h1,h2⟩:=h j k' d' b' hj;exact ⟨e,by rw [Array.getElem?_modify,if_neg hne]; exact h1,h2⟩
theorem ents_push {m:M}{w:World}{ents:List (T × D × Nat)}{arr:Array MapEntry}{e:MapEntry}{k:T}{d:D}{b:Nat}(hl:arr.size=ents.length)
   (h:∀ (i:Nat) (k:T) (d:D) (b:Nat),ents[i]?=some (k,d,b)→∃ e:MapEntry,arr[i]?=some e∧keyV k=some e.key∧VR m w d e.val∧e.born=b)
   (h1:keyV k=some e.key) (h2:VR m w d e.val) (h3:e.born=b) :
   (arr.push e).size=(ents ++ [(k,d,b)]).length∧∀ (j:Nat) (k':T) (d':D) (b':Nat),(ents ++ [(k,d,b)])[j]?=some (k',d',b')→∃ e':MapEntry,(arr.push e)[j]?=some e'∧keyV k'=some e'.key∧VR m w d' e'.val∧e'.born=b':=by
 refine ⟨by simp [hl],fun j k' d' b' hj=>?_⟩
 rw [List.getElem?_append] at hj;split at hj
 · rename_i hlt
   obtain ⟨e',g1,g2⟩:=h j k' d' b' hj;exact ⟨e',by rw [Array.getElem?_push_lt (by omega)]; rw [←g1]; simp [show j<arr.size by omega],g2⟩
 · rename_i hge
   have:j-ents.length=0:=by
    cases hq:j-ents.length with
    | zero=>rfl
    | succ n=>rw [hq] at hj; simp at hj
   rw [this] at hj;simp only [List.getElem?_cons_zero,Option.some.injEq,Prod.mk.injEq] at hj;obtain ⟨rfl,rfl,rfl⟩:=hj;have:j=arr.size:=by omega
   subst this;exact ⟨e,by simp,h1,h2,h3⟩
theorem mapUpdateD_sound {m:M}{w:World}{h h':H}{t:TypeId}{x k v:D}{xv kv vv:Value}(hr:HR m w h)(hx:VR m w x xv)(hk:VR m w k kv)(hv:VR m w v vv)(hvr:v.refsB h.next=true)(hl:mapUpdateD P h t x k v=some h') :
   ∃ w',(Instr.mapUpdate t xv kv vv).run P w = .ok () w'∧HR m w' h'∧Ext h.next m w m w'∧h'.next=h.next∧h'.marks=h.marks:=by
 unfold mapUpdateD at hl;split at hl
 · rename_i kt et id kk ht
   have hu:=run_underlying (w:=w) (tk_map ht);split at hl
   · rename_i hcond
     obtain ⟨hK,hkk,hmay⟩:=hcond;split at hl
     · rename_i ents clock ho
       cases hk with
       | t hkt =>
       have hkv:=keyV_key hkt hkk;have hc:=fun e=>checkKey_run (P:=P) (kt:=kt) hK e kv w
       obtain ⟨mi,arr,g1,g2,rfl,g4,g5,g6,g7⟩:=map_at (P:=P) hr hx ho;have hset:=fun o'=>setObj_run (P:=P) (o':=o') g4 (fun _ _ _ h=>by cases h)
       have hbel:ents.all (fun e=>e.2.1.refsB h.next)=true:=hr.below id _ ho
       have hmk:∀ mk∈h.marks,id<mk→ents.all (fun e=>e.2.1.refsB mk)=true:=fun mk hmk hlt=>(hr.marks mk hmk).2 id _ ho hlt
       split at hl
       · rename_i i d0 b hf
         cases hl;obtain ⟨e,k',q1,q2,q3,q4⟩:=findKey_run (P:=P) (w:=w) hkt g5 (fun i k d b hi=>(g6 i k d b hi).elim fun e he=>⟨e,he.1,he.2.1⟩) hK hf
         obtain ⟨e',r1,r2,r3,r4⟩:=g6 i k' d0 b q1;rw [q2] at r1;cases r1;have hks:=keyThatStays_run (P:=P) hkv w;refine ⟨{ w with heap:=w.heap.setIfInBounds mi.blk (.map (arr.modify i fun e=>{ e with key:=kv,val:=vv }) clock) },?_,?_⟩
         · simp [Instr.mapUpdate,hu,hc,q4,g7,q2,q3,hks,hset]
         · obtain ⟨t1,t2⟩:=turn_obj hr g1 ho (.map (arr.modify i fun e=>{ e with key:=kv,val:=vv }) clock) (.map (ents.set i (kk,v,b)) clock)
            (fun w' hw' hext=>by
             obtain ⟨u1,u2⟩:=ents_set (f:=fun e=>{ e with key:=kv,val:=vv }) (i:=i) (k:=kk) (d:=v) (b:=b) g5 (ents_ext hext hbel g6) (fun e he=>by rw [q2] at he; cases he; exact ⟨hkv,hext.vr hv hvr,r4⟩)
             exact ⟨g2,_,hw',u1,u2⟩)
            (all_set hbel hvr) (fun mk hmk' hlt=>all_set (hmk mk hmk' hlt) (may_refs hmay mk hmk' hlt))
           exact ⟨t1,t2,rfl,rfl⟩
       · rename_i hf
         cases hl;have q:=findKey_run (P:=P) (w:=w) hkt g5 (fun i k d b hi=>(g6 i k d b hi).elim fun e he=>⟨e,he.1,he.2.1⟩) hK hf
         simp only at q;refine ⟨{ w with heap:=w.heap.setIfInBounds mi.blk (.map (arr.push { key:=kv,val:=vv,born:=clock }) (clock+1)) },?_,?_⟩
         · simp [Instr.mapUpdate,hu,hc,q,g7,hset]
         · obtain ⟨t1,t2⟩:=turn_obj hr g1 ho (.map (arr.push { key:=kv,val:=vv,born:=clock }) (clock+1)) (.map (ents ++ [(kk,v,clock)]) (clock+1))
            (fun w' hw' hext=>by
             obtain ⟨u1,u2⟩:=ents_push (e:={ key:=kv,val:=vv,born:=clock }) (k:=kk) (d:=v) (b:=clock) g5 (ents_ext hext hbel g6) hkv (hext.vr hv hvr) rfl;exact ⟨g2,_,hw',u1,u2⟩)
            (all_snoc hbel hvr) (fun mk hmk' hlt=>all_snoc (hmk mk hmk' hlt) (may_refs hmay mk hmk' hlt))
           exact ⟨t1,t2,rfl,rfl⟩
       · cases hl
     · cases hl
   · cases hl
 · cases hl
theorem makeMapD_sound {m:M}{w:World}{h h':H}{t:TypeId}{d:D}(hr:HR m w h)(hl:makeMapD P h t=some (d,h')) :
   ∃ v w' m',(Instr.makeMap t none).run P w = .ok v w'∧Eff m w h d v w' h' m':=by
 unfold makeMapD at hl;split at hl
 · cases hl
   obtain ⟨t1,t2⟩:=hr.push (x':=⟨w.heap.size,0,0,0⟩) (o':=.map [] 0) (below_alloc w (.map #[] 0)) (Nat.le_refl _) (fun _=>⟨rfl,#[],heap_alloc_new w _,rfl,fun i k d b h=>by simp at h⟩) rfl
   refine ⟨.map (some w.heap.size),w.alloc (.map #[] 0),_,?_,t1,.map rfl (fun x hx hs=>?_),t2,by simp [D.refsB,H.push],by simp [H.push],rfl⟩
   · simp [Instr.makeMap,newObj,Sem.run]
   · rw [M.upd_same] at hx
     cases hx;rfl
 · cases hl
theorem ents_erase {m:M}{w:World}{ents:List (T × D × Nat)}{arr:Array MapEntry}(i:Nat)(hl:arr.size=ents.length)
   (h:∀ (i:Nat) (k:T) (d:D) (b:Nat),ents[i]?=some (k,d,b)→∃ e:MapEntry,arr[i]?=some e∧keyV k=some e.key∧VR m w d e.val∧e.born=b) :
   (arr.eraseIdxIfInBounds i).size=(ents.eraseIdx i).length∧∀ (j:Nat) (k':T) (d':D) (b':Nat),(ents.eraseIdx i)[j]?=some (k',d',b')→∃ e:MapEntry,(arr.eraseIdxIfInBounds i)[j]?=some e∧keyV k'=some e.key∧VR m w d' e.val∧e.born=b':=by
 have he:(arr.eraseIdxIfInBounds i).toList=arr.toList.eraseIdx i:=by
   unfold Array.eraseIdxIfInBounds;split
   · simp
   · rename_i hn
     rw [List.eraseIdx_of_length_le (by simpa using hn)]
 have hs:(arr.eraseIdxIfInBounds i).size=(arr.toList.eraseIdx i).length:=by rw [←he,Array.length_toList]
 refine ⟨by rw [hs,List.length_eraseIdx,List.length_eraseIdx]; simp [hl],fun j k' d' b' hj=>?_⟩
 have hg:∀ j:Nat,(arr.eraseIdxIfInBounds i)[j]? = (arr.toList.eraseIdx i)[j]?:=fun j=>by rw [←he,Array.getElem?_toList]
 rw [List.getElem?_eraseIdx] at hj;rw [hg,List.getElem?_eraseIdx];split at hj
 · rename_i hlt
   obtain ⟨e,h1,h2⟩:=h j k' d' b' hj;exact ⟨e,by rw [if_pos hlt]; simpa using h1,h2⟩
 · rename_i hlt
   obtain ⟨e,h1,h2⟩:=h (j+1) k' d' b' hj;exact ⟨e,by rw [if_neg hlt]; simpa using h1,h2⟩
theorem deleteD_sound {m:M}{w:World}{h h':H}{t u ty:TypeId}{x k:D}{xv kv:Value}(hr:HR m w h)(hx:VR m w x xv)(hk:VR m w k kv)(hl:deleteD P h t x k=some h') :
   ∃ w',(Builtin.delete_ #[t,u] ty #[xv,kv]).run P w = .ok (.tuple #[]) w'∧HR m w' h'∧Ext h.next m w m w'∧h'.next=h.next∧h'.marks=h.marks:=by
 unfold deleteD at hl;split at hl
 · rename_i kt et kk ht
   have hu:=run_underlying (w:=w) (tk_map ht);split at hl
   · rename_i hK
     cases hk with
     | t hkt =>
     have hc:=fun e=>checkKey_run (P:=P) (kt:=kt) hK e kv w
     split at hl
     · cases hl
       cases hx with
       | t hx =>
       cases hx;exact ⟨w,by simp [Builtin.delete_,hu,hc],hr,Ext.refl _ _ _,rfl,rfl⟩
     · rename_i id
       split at hl
       · rename_i ents clock ho
         obtain ⟨mi,arr,g1,g2,rfl,g4,g5,g6,g7⟩:=map_at (P:=P) hr hx ho;have hset:=fun o'=>setObj_run (P:=P) (o':=o') g4 (fun _ _ _ h=>by cases h)
         have hbel:ents.all (fun e=>e.2.1.refsB h.next)=true:=hr.below id _ ho
         have hmk:∀ mk∈h.marks,id<mk→ents.all (fun e=>e.2.1.refsB mk)=true:=fun mk hmk hlt=>(hr.marks mk hmk).2 id _ ho hlt
         split at hl
         · rename_i i q0 hf
           obtain ⟨d0,b⟩:=q0;cases hl;obtain ⟨e,k',q1,q2,q3,q4⟩:=findKey_run (P:=P) (w:=w) hkt g5 (fun i k d b hi=>(g6 i k d b hi).elim fun e he=>⟨e,he.1,he.2.1⟩) hK hf
           have hall:∀ {n:Nat},ents.all (fun e=>e.2.1.refsB n)=true→(ents.eraseIdx i).all (fun e=>e.2.1.refsB n)=true:=fun hh=>by
            rw [List.all_eq_true] at hh ⊢;exact fun e he=>hh e (List.mem_of_mem_eraseIdx he)
           obtain ⟨t1,t2⟩:=turn_obj hr g1 ho (.map (arr.eraseIdxIfInBounds i) clock) (.map (ents.eraseIdx i) clock)
            (fun w' hw' hext=>by
             obtain ⟨u1,u2⟩:=ents_erase i g5 (ents_ext hext hbel g6);exact ⟨g2,_,hw',u1,u2⟩)
            (hall hbel) (fun mk hmk' hlt=>hall (hmk mk hmk' hlt))
           exact ⟨_,by simp [Builtin.delete_,hu,hc,q4,g7,hset],t1,t2,rfl,rfl⟩
         · rename_i hf
           cases hl;have q:=findKey_run (P:=P) (w:=w) hkt g5 (fun i k d b hi=>(g6 i k d b hi).elim fun e he=>⟨e,he.1,he.2.1⟩) hK hf
           simp only at q;have hsame:(h.set id (.map ents clock))=h:=by
            cases h with
            | mk objs next marks =>
             simp only [H.set,H.mk.injEq,and_true]
             funext j
             simp only [upd];split
             · rename_i ej; subst ej; exact ho.symm
             · rfl
           obtain ⟨t1,t2⟩:=turn_obj hr g1 ho (.map arr clock) (.map ents clock) (fun w' hw' hext=>⟨g2,_,hw',g5,ents_ext hext hbel g6⟩) hbel hmk
           rw [hsame] at t1;exact ⟨_,by simp [Builtin.delete_,hu,hc,q,g7,hset],t1,t2,rfl,rfl⟩
         · cases hl
       · cases hl
     · cases hl
   · cases hl
 · cases hl
theorem map_same {h:H}{id:Nat}{ents:List (T × D × Nat)}{clock:Nat}(ho:h.objs id=some (.map ents clock)):(h.set id (.map ents clock))=h:=by
 cases h with
 | mk objs next marks =>
  simp only [H.set,H.mk.injEq,and_true]
  funext j
  simp only [upd];split
  · rename_i ej; subst ej; exact ho.symm
  · rfl
theorem keyV_inj {a b:T}{v:Value}(h1:keyV a=some v)(h2:keyV b=some v):a=b:=by
 have key:∀ {a:T} {v:Value},keyV a=some v→(∃ k n,a = .int k n∧v = .int k n)∨(∃ s,a = .str s∧v = .string s)∨∃ c,a = .bool c∧v = .bool c:=by
  intro a v h
  cases a with
  | int k n=>cases h; exact .inl ⟨_,_,rfl,rfl⟩
  | str s=>cases h; exact .inr (.inl ⟨_,rfl,rfl⟩)
  | bool c=>cases h; exact .inr (.inr ⟨_,rfl,rfl⟩)
  | _=>cases h
 rcases key h1 with ⟨k,n,rfl,rfl⟩|⟨s,rfl,rfl⟩|⟨c,rfl,rfl⟩
 all_goals rcases key h2 with ⟨k',n',rfl,e⟩|⟨s',rfl,e⟩|⟨c',rfl,e⟩<;>cases e<;>rfl
theorem mapEntryD_sound {m:M}{w:World}{h h':H}{t:TypeId}{x k p:D}{xv kv:Value}(hr:HR m w h)(hx:VR m w x xv)(hk:VR m w k kv)(hl:mapEntryD P h t x k=some (p,h')) :
   ∃ v w' m',(Instr.mapEntry t xv kv).run P w = .ok v w'∧Eff m w h p v w' h' m':=by
 unfold mapEntryD at hl;split at hl
 · rename_i kt et id kk ht
   have hu:=run_underlying (w:=w) (tk_map ht);split at hl
   · rename_i hcond
     obtain ⟨hK,hkk⟩:=hcond;split at hl
     · rename_i ents clock z ho hz
       obtain ⟨zv,hzr,hzo⟩:=run_zeroT (P:=P) hz w
       cases hk with
       | t hkt =>
       have hkv:=keyV_key hkt hkk;have hc:=fun e=>checkKey_run (P:=P) (kt:=kt) hK e kv w
       obtain ⟨mi,arr,g1,g2,rfl,g4,g5,g6,g7⟩:=map_at (P:=P) hr hx ho;have hset:=fun o'=>setObj_run (P:=P) (o':=o') g4 (fun _ _ _ h=>by cases h)
       have hbel:ents.all (fun e=>e.2.1.refsB h.next)=true:=hr.below id _ ho
       have hmk:∀ mk∈h.marks,id<mk→ents.all (fun e=>e.2.1.refsB mk)=true:=fun mk hmk hlt=>(hr.marks mk hmk).2 id _ ho hlt
       split at hl
       · rename_i i d0 b hf
         cases hl;obtain ⟨e,k',q1,q2,q3,q4⟩:=findKey_run (P:=P) (w:=w) hkt g5 (fun i k d b hi=>(g6 i k d b hi).elim fun e he=>⟨e,he.1,he.2.1⟩) hK hf
         obtain ⟨e',r1,r2,r3,r4⟩:=g6 i k' d0 b q1;rw [q2] at r1;cases r1;have hks:=keyThatStays_run (P:=P) hkv w;have hkk':k'=kk:=keyV_inj (by rw [r2,q3]) hkv
         have hse:ents.set i (kk,d0,b)=ents:=by
           obtain ⟨hlt,hget⟩:=List.getElem?_eq_some_iff.1 q1;rw [←hkk',←hget];exact List.set_getElem_self hlt
         obtain ⟨t1,t2⟩:=turn_obj hr g1 ho (.map (arr.modify i fun e=>{ e with key:=kv }) clock) (.map ents clock)
           (fun w' hw' hext=>by
            obtain ⟨u1,u2⟩:=ents_set (f:=fun e=>{ e with key:=kv }) (i:=i) (k:=kk) (d:=d0) (b:=b) g5 (ents_ext hext hbel g6) (fun e he=>by
             rw [q2] at he; cases he;exact ⟨hkv,hext.vr r3 (all_get (p:=fun e:T × D × Nat=>e.2.1.refsB h.next) (l:=ents) hbel q1),r4⟩)
            rw [hse] at u1 u2;exact ⟨g2,_,hw',u1,u2⟩)
           hbel hmk
         rw [map_same ho] at t1;refine ⟨.tuple #[e.val,goInt b],{ w with heap:=w.heap.setIfInBounds mi.blk (.map (arr.modify i fun e=>{ e with key:=kv }) clock) },m,?_,t1,?_,t2,?_,Nat.le_refl _,rfl⟩
         · simp [Instr.mapEntry,hu,hc,q4,g7,q2,q3,hks,hset,r4]
         · refine .tup rfl fun i d' v' hd hv=>?_
           match i with
           | 0=>simp at hd hv; subst hd; subst hv; exact t2.vr r3 (all_get (p:=fun e:T × D × Nat=>e.2.1.refsB h.next) (l:=ents) hbel q1)
           | 1=>simp at hd hv; subst hd; subst hv; exact .t (.int _ _)
           | i+2=>simp at hd
         · simp only [D.refsB,D.refsB.refsL,Bool.and_true]
           exact all_get (p:=fun e:T × D × Nat=>e.2.1.refsB h.next) (l:=ents) hbel q1
       · rename_i hf
         cases hl;have q:=findKey_run (P:=P) (w:=w) hkt g5 (fun i k d b hi=>(g6 i k d b hi).elim fun e he=>⟨e,he.1,he.2.1⟩) hK hf
         simp only at q;obtain ⟨t1,t2⟩:=turn_obj hr g1 ho (.map (arr.push { key:=kv,val:=zv,born:=clock }) (clock+1)) (.map (ents ++ [(kk,.t z,clock)]) (clock+1))
           (fun w' hw' hext=>by
            obtain ⟨u1,u2⟩:=ents_push (e:={ key:=kv,val:=zv,born:=clock }) (k:=kk) (d:=.t z) (b:=clock) g5 (ents_ext hext hbel g6) hkv (.t (ofVal_tr hzo)) rfl;exact ⟨g2,_,hw',u1,u2⟩)
           (all_snoc hbel rfl) (fun mk hmk' hlt=>all_snoc (hmk mk hmk' hlt) rfl)
         refine ⟨.tuple #[zv,goInt clock],{ w with heap:=w.heap.setIfInBounds mi.blk (.map (arr.push { key:=kv,val:=zv,born:=clock }) (clock+1)) },m,?_,t1,?_,t2,rfl,Nat.le_refl _,rfl⟩
         · simp [Instr.mapEntry,hu,hc,q,g7,hset,hzr]
         · refine .tup rfl fun i d' v' hd hv=>?_
           match i with
           | 0=>simp at hd hv; subst hd; subst hv; exact .t (ofVal_tr hzo)
           | 1=>simp at hd hv; subst hd; subst hv; exact .t (.int _ _)
           | i+2=>simp at hd
       · cases hl
     · cases hl
   · cases hl
 · cases hl
theorem born_idx {ents:List (T × D × Nat)}{l:List MapEntry}{b:Int}(hl:l.length=ents.length)(h:∀ (i:Nat)(k:T)(d:D)(b:Nat),ents[i]?=some (k,d,b)→∃ e:MapEntry,l[i]?=some e∧e.born=b) :
  l.findIdx? (fun e=>(e.born:Int) == b)=ents.findIdx? (fun e=>decide ((e.2.2:Int)=b)):=by
 induction ents generalizing l with
 | nil=>obtain rfl:l=[]:=List.length_eq_zero_iff.1 hl; rfl
 | cons x xs ih =>
  obtain ⟨e,l',rfl⟩:∃ e l',l=e::l':=by
   cases l with
   | nil=>simp at hl
   | cons e l'=>exact ⟨e,l',rfl⟩
  obtain ⟨e0,he0,hb⟩:=h 0 x.1 x.2.1 x.2.2 rfl;simp only [List.getElem?_cons_zero,Option.some.injEq] at he0;subst he0;have:=ih (l:=l') (by simpa using hl) (fun i k d b hi=>by
   obtain ⟨e',h1,h2⟩:=h (i+1) k d b (by simpa using hi)
   exact ⟨e',by simpa using h1,h2⟩)
  rw [List.findIdx?_cons,List.findIdx?_cons,this,hb];by_cases hq:(x.2.2:Int)=b<;>simp [hq]
theorem entryStoreD_sound {m:M}{w:World}{h h':H}{t:TypeId}{x s v:D}{xv sv vv:Value}(hr:HR m w h)(hx:VR m w x xv)(hs:VR m w s sv)(hv:VR m w v vv)(hvr:v.refsB h.next=true)(hl:entryStoreD h x s v=some h') :
   ∃ w',(Instr.entryStore t xv sv vv).run P w = .ok () w'∧HR m w' h'∧Ext h.next m w m w'∧h'.next=h.next∧h'.marks=h.marks:=by
 unfold entryStoreD at hl;split at hl
 · rename_i id k b
   split at hl
   · rename_i hmay
     split at hl
     · rename_i ents clock ho
       cases hs with
       | t hs =>
       cases hs;obtain ⟨mi,arr,g1,g2,rfl,g4,g5,g6,g7⟩:=map_at (P:=P) hr hx ho;have hset:=fun o'=>setObj_run (P:=P) (o':=o') g4 (fun _ _ _ h=>by cases h)
       have hbel:ents.all (fun e=>e.2.1.refsB h.next)=true:=hr.below id _ ho
       have hmk:∀ mk∈h.marks,id<mk→ents.all (fun e=>e.2.1.refsB mk)=true:=fun mk hmk hlt=>(hr.marks mk hmk).2 id _ ho hlt
       have hidx:=born_idx (l:=arr.toList) (b:=b) (by simpa using g5) (fun i k d b hi=>by
         obtain ⟨e,h1,_,_,h4⟩:=g6 i k d b hi;exact ⟨e,by simpa using h1,h4⟩)
       split at hl
       · rename_i i hi
         split at hl
         · rename_i e he
           cases hl;obtain ⟨ek,ed,eb⟩:=e;obtain ⟨e',r1,r2,r3,r4⟩:=g6 i ek ed eb he;rw [hi] at hidx;obtain ⟨t1,t2⟩:=turn_obj hr g1 ho (.map (arr.modify i fun e=>{ e with val:=vv }) clock) (.map (ents.set i (ek,v,eb)) clock)
            (fun w' hw' hext=>by
             obtain ⟨u1,u2⟩:=ents_set (f:=fun e=>{ e with val:=vv }) (i:=i) (k:=ek) (d:=v) (b:=eb) g5 (ents_ext hext hbel g6) (fun e he=>by rw [r1] at he; cases he; exact ⟨r2,hext.vr hv hvr,r4⟩)
             exact ⟨g2,_,hw',u1,u2⟩)
            (all_set hbel hvr) (fun mk hmk' hlt=>all_set (hmk mk hmk' hlt) (may_refs hmay mk hmk' hlt))
           refine ⟨_,?_,t1,t2,rfl,rfl⟩;have hidx':arr.findIdx? (fun e=>(e.born:Int) == b)=some i:=by
            have h9:arr.toList.toArray.findIdx? (fun e=>(e.born:Int) == b)=arr.toList.findIdx? (fun e=>(e.born:Int) == b):=List.findIdx?_toArray ..
            rw [Array.toArray_toList] at h9;rw [h9];exact hidx
           simp [Instr.entryStore,g7,asInt,asIntOf,hidx',hset]
         · cases hl
       · cases hl
     · cases hl
   · cases hl
 · cases hl
end
end Vai

namespace Vai
open Go
open Go.RowKit (Below)
variable [Gl]{dfs:List Deferred}
structure SR (dfs:List Deferred) (m:M) (st:St) (a:Act) (w:World):Prop where
 hr:HR m w st.h
 size:a.tmps.size=st.n
 env:∀ i,i<st.n→VR m w (st.env i) (a.tmps.getD i undef)
 refs:∀ i,i<st.n→(st.env i).refsB st.h.next=true
 defers:a.defers=dfs
section
variable {P:Program}
theorem ev_sound {m:M}{st:St}{a:Act}{w:World}(h:SR dfs m st a w){x:Operand}{d:D}(he:st.ev x=some d):VR m w d (a.eval x)∧d.refsB st.h.next=true:=by
 unfold St.ev at he;split at he
 · split at he
   · cases he
     exact ⟨h.env _ (by assumption),h.refs _ (by assumption)⟩
   · cases he
 · obtain ⟨x,hx,rfl⟩:=Option.map_eq_some_iff.1 he
   exact ⟨ofVal_vr hx,rfl⟩
 · cases he
   exact ⟨.func rfl rfl (fun i d v hd=>by simp at hd) (fun i d v hd=>by simp at hd),rfl⟩
 · obtain ⟨x,hx,rfl⟩:=Option.map_eq_some_iff.1 he
   exact ⟨h.hr.glob.addr hx,rfl⟩
def OV (m:M)(w:World)(n:Nat)(ρ:Operand→Value)(xs:List Operand)(ds:List D):Prop :=
 xs.length=ds.length∧∀ (i:Nat) (x:Operand) (d:D),xs[i]?=some x→ds[i]?=some d→VR m w d (ρ x)∧d.refsB n=true
theorem evs_sound {m:M}{st:St}{a:Act}{w:World}(h:SR dfs m st a w){xs:List Operand}{ds:List D}(he:allM st.ev xs=some ds):OV m w st.h.next a.eval xs ds :=
 ⟨(allM_some he).1,fun i x d hx hd=>ev_sound h ((allM_some he).2 i x d hx hd)⟩
theorem OV.get {m:M}{w:World}{n:Nat}{ρ:Operand→Value}{xs:List Operand}{ds:List D}(h:OV m w n ρ xs ds){i:Nat}{x:Operand}{d:D}(hx:xs[i]?=some x)(hd:ds[i]?=some d):VR m w d (ρ x)∧d.refsB n=true:=h.2 i x d hx hd
theorem OV.tail {m:M}{w:World}{n:Nat}{ρ:Operand→Value}{x:Operand}{xs:List Operand}{d:D}{ds:List D}(h:OV m w n ρ (x::xs) (d::ds)):(VR m w d (ρ x)∧d.refsB n=true)∧OV m w n ρ xs ds :=
 ⟨h.2 0 x d rfl rfl,by simpa using h.1,fun i x d hx hd=>h.2 (i+1) x d (by simpa using hx) (by simpa using hd)⟩
theorem zip_pr {m:M}{w:World}{n:Nat}{ρ:Operand→Value}{parts:Array (Nat × Operand)}{ds:List D}(h:OV m w n ρ (parts.toList.map (·.2)) ds) :
   PR m w (zipIx parts ds) (parts.map fun (i,x)=>(i,ρ x)).toList∧∀ p∈zipIx parts ds,p.2.refsB n=true:=by
 have hl:parts.toList.length=ds.length:=by simpa using h.1
 refine ⟨⟨by simp [zipIx,hl],fun i p q hp hq=>?_⟩,fun p hp=>?_⟩
 · simp only [zipIx,List.getElem?_zip_eq_some,List.getElem?_map,Option.map_eq_some_iff] at hp
   obtain ⟨⟨pi,hpi,hp1⟩,hp2⟩:=hp;simp only [Array.toList_map,List.getElem?_map,Option.map_eq_some_iff] at hq;obtain ⟨qi,hqi,rfl⟩:=hq;rw [hpi] at hqi;obtain rfl:=Option.some.inj hqi;refine ⟨hp1.symm,?_⟩;exact (h.2 i pi.2 p.2 (by simp [hpi]) hp2).1
 · obtain ⟨i,hi⟩:=List.getElem?_of_mem hp
   simp only [zipIx,List.getElem?_zip_eq_some,List.getElem?_map,Option.map_eq_some_iff] at hi;obtain ⟨⟨pi,hpi,hp1⟩,hp2⟩:=hi;exact (h.2 i pi.2 p.2 (by simp [hpi]) hp2).2
theorem parts_cells {d:D}{cs:List D}(h:d.parts=some cs):d.cells=cs:=by
 unfold D.parts at h;split at h
 · cases h; rfl
 · cases h; rfl
 · cases h
theorem partD_refs {t:TypeId}{cs:List D}{f n:Nat}{d:D}(h:partD P t cs f=some d)(hc:∀ (j:Nat)(c:D),cs[j]?=some c→c.refsB n=true):d.refsB n=true:=by
 unfold partD at h;split at h
 · cases h
 · split at h
   · split at h
     · cases h
       refine mkAgg_refs (allM_refs fun j c hj=>?_)
       rw [List.getElem?_take] at hj;split at hj
       · rw [List.getElem?_drop] at hj; exact hc _ c hj
       · cases hj
     · cases h
   · cases h
 · exact hc f d h
theorem els_refs {m:M}{w:World}{h:H}(hr:HR m w h){id top:Nat}{bt:TypeId}{s:Nat}{es:List D}(he:h.els id top=some (bt,s,es)):es.all (D.refsB h.next)=true:=by
 obtain ⟨_,_,_,_,_,hob,_⟩:=els_at hr he;exact hr.below id _ hob
theorem loadD_refs {m:M}{w:World}{h:H}{t:TypeId}{a d:D}(hr:HR m w h)(hl:loadD P h t a=some d):d.refsB h.next=true:=by
 cases a with
 | ptr id i f top =>
  simp only [loadD] at hl
  cases he:h.els id top with
  | none=>simp [he] at hl
  | some x =>
   obtain ⟨bt,s,es⟩:=x;simp only [he] at hl;have hes:=els_refs hr he;split at hl
   · cases hl
     refine mkAgg_refs (allM_refs fun j c hj=>?_)
     obtain ⟨e,he,hce⟩:=List.mem_flatMap.1 (List.mem_of_getElem? hj);obtain ⟨k,hk⟩:=List.getElem?_of_mem hce;rw [List.all_eq_true] at hes;exact cells_refs (hes e he) hk
   · cases hi:es[i]? with
     | none=>simp [hi] at hl
     | some e =>
      simp only [hi] at hl;exact partD_refs hl fun j c hj=>cells_refs (all_get hes hi) hj
 | eptr x f =>
  simp only [loadD] at hl;refine partD_refs hl fun j c hj=>?_
  simp only [List.getElem?_map,Option.map_eq_some_iff] at hj;obtain ⟨y,_,rfl⟩:=hj;rfl
 | _=>simp [loadD] at hl
theorem fillD_refs {n:Nat}{place:Nat→Option (Nat × Nat)}:∀ (ps:List (Nat × D)) (cs r:List D),(∀ p∈ps,p.2.refsB n=true)→(∀ (j:Nat) (c:D),cs[j]?=some c→c.refsB n=true)→fillD place cs ps=some r→∀ (j:Nat) (c:D),r[j]?=some c→c.refsB n=true
 | [],cs,r,_,hc,h=>by simp only [fillD,Option.some.injEq] at h; subst h; exact hc
 | (i,d)::ps,cs,r,hp,hc,h=>by
  simp only [fillD] at h;split at h
  · cases h
  · rename_i off s _
    split at h
    · rename_i hcond
      refine fillD_refs ps _ r (fun p hpm=>hp p (List.mem_cons_of_mem _ hpm)) (fun j c hj=>?_) h
      rw [(splice_get cs off d.cells (by rw [hcond.1]; exact hcond.2.2) j).1] at hj
      split at hj
      · exact cells_refs (hp (i,d) List.mem_cons_self) hj
      · exact hc j c hj
    · cases h
theorem buildD_refs {n:Nat}{t:TypeId}{ps:List (Nat × D)}{d:D}(hp:∀ p∈ps,p.2.refsB n=true)(h:buildD P t ps=some d):d.refsB n=true:=by
 have zr:∀ (z:T) (j:Nat) (c:D),(z.cells.map D.t)[j]?=some c→c.refsB n=true:=by
   intro z j c hj;simp only [List.getElem?_map,Option.map_eq_some_iff] at hj;obtain ⟨y,_,rfl⟩:=hj;rfl
 unfold buildD at h;split at h
 · cases h
 · split at h
   · split at h
     · obtain ⟨r,hr,rfl⟩:=Option.map_eq_some_iff.1 h
       exact mkAgg_refs (allM_refs (fillD_refs ps _ r hp (zr _) hr))
     · cases h
   · split at h
     · obtain ⟨r,hr,rfl⟩:=Option.map_eq_some_iff.1 h
       exact mkAgg_refs (allM_refs (fillD_refs ps _ r hp (zr _) hr))
     · cases h
   · cases h
theorem pureD_sound {m:M}{w:World}{h:H}(hr:HR m w h){o:Oper}{ρ:Operand→Value}{ds:List D}{d:D}(hov:OV m w h.next ρ o.op.operands.toList ds)(hp:pureD P o.op ds=some d) :
  ∃ v w',(execOp ρ o).run P w = .ok (.value v) w'∧Below w.heap.size w w'∧VR m w' d v∧d.refsB h.next=true:=by
 obtain ⟨dst,op,type,pos,after,guard⟩:=o;simp only at hov hp;cases op<;>simp only [pureD] at hp<;>try (cases hp; done)
 case move x =>
  split at hp<;>cases hp
  obtain ⟨h1,h2⟩:=hov.get (i:=0) (x:=x) rfl rfl;exact ⟨_,w,rfl,Below.refl _ _,h1,h2⟩
 case assign x =>
  split at hp<;>cases hp
  obtain ⟨h1,h2⟩:=hov.get (i:=0) (x:=x) rfl rfl;exact ⟨_,w,rfl,Below.refl _ _,h1,h2⟩
 case pick c a b =>
  split at hp<;>cases hp
  rename_i c' a' b';obtain ⟨h1,_⟩:=hov.get (i:=0) (x:=c) rfl rfl;obtain ⟨h2,h3⟩:=hov.get (i:=1) (x:=a) rfl rfl;obtain ⟨h4,h5⟩:=hov.get (i:=2) (x:=b) rfl rfl;generalize hc:ρ c=cv at h1
  cases h1 with
  | t hx =>
  cases hx;refine ⟨if c' then ρ a else ρ b,w,?_,Below.refl _ _,?_,?_⟩
  · simp [execOp,hc,asBool]
  · cases c'<;>simpa
  · cases c'<;>simpa
 case unOp u t x =>
  split at hp<;>try (cases hp; done)
  obtain ⟨h1,_⟩:=hov.get (i:=0) (x:=x) rfl rfl;obtain ⟨z,hz,hzr⟩:=unD_sound (P:=P) h1 hp;refine ⟨z,w,by simp [execOp,hz],Below.refl _ _,hzr,?_⟩
  unfold unD at hp;split at hp
  · split at hp
    · cases hp; rfl
    · obtain ⟨_,_,rfl⟩:=Option.map_eq_some_iff.1 hp; rfl
    · cases hp
  · split at hp
    · cases hp; rfl
    · cases hp
  · cases hp
 case makeInterface t x =>
  split at hp<;>try (cases hp; done)
  split at hp<;>cases hp
  rename_i hs;obtain ⟨h1,h2⟩:=hov.get (i:=0) (x:=x) rfl rfl;obtain ⟨h3,h4⟩:=makeInterface_sound (P:=P) h1 hs;refine ⟨_,w,by simp [execOp,h3],Below.refl _ _,h4,?_⟩
  unfold mkIface;split
  · rfl
  · exact h2
 case makeFunc fn first captured =>
  cases hp;have hl:first.size+captured.size=ds.length:=by simpa [Op.operands] using hov.1
  refine ⟨.func fn (first.map ρ) (captured.map ρ),w,by simp [execOp,Instr.makeFunc],Below.refl _ _,.func (by simp; omega) (by simp; omega) (fun i d v hd hv=>?_) (fun i d v hd hv=>?_),?_⟩
  · rw [List.getElem?_take] at hd
    split at hd
    · rename_i hi
      simp only [Array.getElem?_map,Option.map_eq_some_iff] at hv;obtain ⟨x,hx,rfl⟩:=hv;exact (hov.get (i:=i) (x:=x) (by simp only [Op.operands,Array.toList_append]; rw [List.getElem?_append_left (by simpa using hi)]; simpa using hx) hd).1
    · cases hd
  · rw [List.getElem?_drop] at hd
    simp only [Array.getElem?_map,Option.map_eq_some_iff] at hv;obtain ⟨x,hx,rfl⟩:=hv;exact (hov.get (i:=first.size+i) (x:=x) (by simp only [Op.operands,Array.toList_append]; rw [List.getElem?_append_right (by simp)]; simpa using hx) hd).1
  · simp only [D.refsB,Bool.and_eq_true]
    refine ⟨allM_refs fun j c hj=>?_,allM_refs fun j c hj=>?_⟩
    · rw [List.getElem?_take] at hj
      split at hj
      · have hj':j<(Op.makeFunc fn first captured).operands.toList.length:=by rw [hov.1]; exact (List.getElem?_eq_some_iff.1 hj).1
        exact (hov.get (List.getElem?_eq_getElem hj') hj).2
      · cases hj
    · rw [List.getElem?_drop] at hj
      have hj':first.size+j<(Op.makeFunc fn first captured).operands.toList.length:=by rw [hov.1]; exact (List.getElem?_eq_some_iff.1 hj).1
      exact (hov.get (List.getElem?_eq_getElem hj') hj).2
 case extract x i =>
  split at hp<;>try (cases hp; done)
  obtain ⟨h1,h2⟩:=hov.get (i:=0) (x:=x) rfl rfl;generalize hx:ρ x=xv at h1
  cases h1 with
  | tup hl hh =>
  rename_i vs;have hi:i<vs.size:=by rw [←hl]; exact (List.getElem?_eq_some_iff.1 hp).1
  refine ⟨vs[i],w,?_,Below.refl _ _,hh i d _ hp (by simp [hi]),refsL_get (by simpa [D.refsB] using h2) hp⟩
  simp [execOp,hx,Instr.extract,hi]
 case build t parts =>
  have hov':OV m w h.next ρ (parts.toList.map (·.2)) ds:=by simpa [Op.operands] using hov
  obtain ⟨h1,h2⟩:=zip_pr hov';obtain ⟨v,hv,hvr⟩:=buildD_sound (P:=P) h1 hp;refine ⟨v,w,?_,Below.refl _ _,hvr,buildD_refs h2 hp⟩;simp only [execOp,Sem.run_bind,hv,Result.andThen_ok];rfl
 case buildSlice t n parts =>
  have hov':OV m w h.next ρ (parts.toList.map (·.2)) ds:=by simpa [Op.operands] using hov
  obtain ⟨h1,h2⟩:=zip_pr hov';obtain ⟨v,w',hv,hb,hvr⟩:=litSliceD_sound (P:=P) hr h1 hp;refine ⟨v,w',?_,hb,hvr,?_⟩
  · simp only [execOp,Sem.run_bind,hv,Result.andThen_ok]
    rfl
  · unfold litSliceD at hp
    split at hp
    · split at hp
      · split at hp
        · split at hp
          · obtain ⟨_,_,rfl⟩:=Option.map_eq_some_iff.1 hp; rfl
          · cases hp
        · cases hp
      · cases hp
    · cases hp
 case field t x f =>
  split at hp<;>try (cases hp; done)
  obtain ⟨h1,h2⟩:=hov.get (i:=0) (x:=x) rfl rfl;obtain ⟨z,hz,hzr⟩:=fieldD_sound (P:=P) h1 hp;refine ⟨z,w,by simp [execOp,hz],Below.refl _ _,hzr,?_⟩
  unfold fieldD at hp;split at hp
  · split at hp
    · split at hp
      · rename_i hcs
        refine partD_refs hp fun j c hj=>?_
        rw [←parts_cells hcs] at hj;exact cells_refs h2 hj
      · cases hp
    · cases hp
  · cases hp
 case index t x i =>
  split at hp<;>try (cases hp; done)
  obtain ⟨h1,h2⟩:=hov.get (i:=0) (x:=x) rfl rfl;obtain ⟨h3,_⟩:=hov.get (i:=1) (x:=i) rfl rfl;obtain ⟨z,hz,hzr⟩:=indexD_sound (P:=P) h1 h3 hp;refine ⟨z,w,by simp [execOp,hz],Below.refl _ _,hzr,?_⟩
  unfold indexD at hp;split at hp
  · split at hp
    · split at hp
      · split at hp
        · cases hp; rfl
        · cases hp
      · split at hp
        · rename_i hcs _
          split at hp
          · refine partD_refs hp fun j c hj=>?_
            rw [←parts_cells hcs] at hj;exact cells_refs h2 hj
          · cases hp
        · cases hp
      · cases hp
    · cases hp
  · cases hp
 case typeAssert x xt t ok =>
  split at hp<;>try (cases hp; done)
  obtain ⟨h1,h2⟩:=hov.get (i:=0) (x:=x) rfl rfl;obtain ⟨z,hz,hzr⟩:=assertD_sound (P:=P) (xt:=xt) h1 hp;refine ⟨z,w,by simp [execOp,hz],Below.refl _ _,hzr,?_⟩
  have hold:∀ x:D,x.refsB h.next=true→(holdD ok x).refsB h.next=true:=by
    intro x hx;unfold holdD;split
    · simp [D.refsB,D.refsB.refsL,hx]
    · exact hx
  have hfail:failD P ok t=some d→d.refsB h.next=true:=by
    intro hf;unfold failD at hf;split at hf
    · obtain ⟨_,_,rfl⟩:=Option.map_eq_some_iff.1 hf
      rfl
    · cases hf
  unfold assertD at hp;split at hp
  · split at hp
    · exact hfail hp
    · split at hp
      · cases hp; exact hold _ rfl
      · exact hfail hp
    · split at hp
      · cases hp; exact hold _ h2
      · exact hfail hp
    · cases hp
  · cases hp
theorem binD_refs {h:H}{op:BinOp}{t:TypeId}{a b d:D}{n:Nat}(hb:binD P h op t a b=some d):d.refsB n=true:=by
 unfold binD at hb;split at hb
 · obtain ⟨_,_,rfl⟩:=Option.map_eq_some_iff.1 hb; rfl
 · obtain ⟨_,_,rfl⟩:=Option.map_eq_some_iff.1 hb; rfl
 · split at hb
   · obtain ⟨_,_,rfl⟩:=Option.map_eq_some_iff.1 hb; rfl
   · obtain ⟨_,_,rfl⟩:=Option.map_eq_some_iff.1 hb; rfl
   · cases hb
theorem convD_refs {h:H}{s t:TypeId}{a d:D}{n:Nat}(hb:convD P h s t a=some d):d.refsB n=true:=by
 unfold convD at hb;split at hb
 · split at hb
   · cases hb; rfl
   · cases hb
 · split at hb
   · cases hb; rfl
   · split at hb
     · cases hb; rfl
     · cases hb
   · cases hb
 · split at hb
   · split at hb
     · obtain ⟨_,_,rfl⟩:=Option.map_eq_some_iff.1 hb; rfl
     · cases hb
   · split at hb
     · cases hb; rfl
     · cases hb
   · cases hb
theorem fieldAddrD_refs {h:H}{t:TypeId}{a d:D}{f n:Nat}(ha:a.refsB n=true)(hb:fieldAddrD P h t a f=some d):d.refsB n=true:=by
 unfold fieldAddrD at hb;split at hb
 · split at hb
   · split at hb
     · split at hb
       · split at hb
         · cases hb; exact ha
         · cases hb
       · cases hb; rfl
       · cases hb
     · cases hb
   · cases hb
 · cases hb
theorem indexAddrD_refs {h:H}{t:TypeId}{a i d:D}{n:Nat}(ha:a.refsB n=true)(hb:indexAddrD P h t a i=some d):d.refsB n=true:=by
 unfold indexAddrD at hb;split at hb
 · split at hb
   · split at hb
     · split at hb
       · split at hb
         · cases hb; rfl
         · cases hb
       · cases hb
     · split at hb
       · split at hb
         · cases hb; exact ha
         · cases hb
       · cases hb
     · split at hb
       · split at hb
         · cases hb; exact ha
         · cases hb
       · cases hb
     · split at hb
       · split at hb
         · cases hb; rfl
         · cases hb
       · cases hb
     · cases hb
   · cases hb
 · cases hb
theorem sliceD_refs {h:H}{t:TypeId}{a d:D}{lo hi mx:Option D}{n:Nat}(ha:a.refsB n=true)(hb:sliceD P h t a lo hi mx=some d):d.refsB n=true:=by
 unfold sliceD at hb;split at hb
 · simp only at hb
   split at hb
   · split at hb
     · cases hb; rfl
     · cases hb
   · split at hb
     · split at hb
       · cases hb; rfl
       · cases hb
     · cases hb
   · split at hb
     · split at hb
       · cases hb; rfl
       · cases hb
     · cases hb
   · split at hb
     · split at hb
       · cases hb; exact ha
       · cases hb
     · cases hb
   · split at hb
     · split at hb
       · cases hb; exact ha
       · cases hb
     · cases hb
   · cases hb
 · cases hb
theorem lenD_refs {h:H}{t:TypeId}{a d:D}{n:Nat}(hb:lenD P h t a=some d):d.refsB n=true:=by
 unfold lenD at hb
 (repeat' split at hb)<;>first|(cases hb; done)|(cases hb; rfl)
theorem mmAll_refs {mx:Bool}{n:Nat}:∀ (ds:List D) (x d:D),mmAll mx x ds=some d→d.refsB n=true
 | [],x,d,h=>by
  simp only [mmAll] at h;split at h
  · cases h; rfl
  · cases h
 | y::ds,x,d,h=>by
  simp only [mmAll] at h;split at h
  · exact mmAll_refs ds _ d h
  · cases h
theorem takeO_sound {m:M}{w:World}{n:Nat}{ρ:Operand→Value}{x:Option Operand}{xs:List Operand}{ds:List D}(h:OV m w n ρ (x.toArray.toList++xs) ds) :
  (∀ d',(takeO x ds).1=some d'→∃ v',x.map ρ=some v'∧VR m w d' v')∧((takeO x ds).1=none→x.map ρ=none)∧OV m w n ρ xs (takeO x ds).2:=by
 cases x with
 | none=>exact ⟨fun d' hd=>by simp [takeO] at hd,fun _=>rfl,by simpa [takeO] using h⟩
 | some o =>
  cases ds with
  | nil=>have:=h.1; simp at this
  | cons d ds =>
   have h':OV m w n ρ (o::xs) (d::ds):=by simpa using h
   obtain ⟨⟨h1,_⟩,h2⟩:=h'.tail;exact ⟨fun d' hd=>by simp [takeO] at hd; subst hd; exact ⟨_,rfl,h1⟩,fun hn=>by simp [takeO] at hn,by simpa [takeO] using h2⟩
theorem callee_args (c:Go.Call)(b:Builtin)(h:c.callee = .builtin b):(Go.Op.call c).operands.toList=c.args.toList:=by
 simp [Op.operands,Go.Call.operands,h]
theorem readD_sound {m:M}{w:World}{h:H}(hr:HR m w h){o:Oper}{ρ:Operand→Value}{ds:List D}{d:D}(hov:OV m w h.next ρ o.op.operands.toList ds)(hp:readD P h o.op ds=some d) :
  ∃ v w',(execOp ρ o).run P w = .ok (.value v) w'∧Below w.heap.size w w'∧VR m w' d v∧d.refsB h.next=true:=by
 obtain ⟨dst,op,type,pos,after,guard⟩:=o;simp only at hov hp;cases op<;>simp only [readD] at hp<;>try (cases hp; done)
 case nilCheck x =>
  split at hp<;>try (cases hp; done)
  obtain ⟨h1,h2⟩:=hov.get (i:=0) (x:=x) rfl rfl;obtain ⟨q1,q2⟩:=nilCheck_sound (P:=P) (o:=⟨dst,.nilCheck x,type,pos,after,guard⟩) (ρ:=ρ) rfl rfl hr h1 hp;refine ⟨_,w,q1,Below.refl _ _,q2,?_⟩;unfold nilCheckD at hp;split at hp
  · split at hp
    · cases hp; exact h2
    · cases hp
  · cases hp; rfl
  · cases hp; exact h2
  · cases hp
 case fieldAddr t x f =>
  split at hp<;>try (cases hp; done)
  obtain ⟨h1,h2⟩:=hov.get (i:=0) (x:=x) rfl rfl;obtain ⟨z,hz,hzr⟩:=fieldAddr_sound (P:=P) hr h1 hp;exact ⟨z,w,by simp [execOp,hz],Below.refl _ _,hzr,fieldAddrD_refs h2 hp⟩
 case indexAddr t x i =>
  split at hp<;>try (cases hp; done)
  obtain ⟨h1,h2⟩:=hov.get (i:=0) (x:=x) rfl rfl;obtain ⟨h3,_⟩:=hov.get (i:=1) (x:=i) rfl rfl;obtain ⟨z,hz,hzr⟩:=indexAddr_sound (P:=P) hr h1 h3 hp;exact ⟨z,w,by simp [execOp,hz],Below.refl _ _,hzr,indexAddrD_refs h2 hp⟩
 case load t x =>
  split at hp<;>try (cases hp; done)
  obtain ⟨h1,h2⟩:=hov.get (i:=0) (x:=x) rfl rfl;obtain ⟨z,hz,hzr⟩:=load_sound (P:=P) hr h1 hp;exact ⟨z,w,by simp [execOp,hz],Below.refl _ _,hzr,loadD_refs hr hp⟩
 case lookup t x k ok =>
  split at hp<;>try (cases hp; done)
  obtain ⟨h1,_⟩:=hov.get (i:=0) (x:=x) rfl rfl;obtain ⟨h2,_⟩:=hov.get (i:=1) (x:=k) rfl rfl;obtain ⟨z,hz,hzr,hzf⟩:=lookupD_sound (P:=P) hr h1 h2 hp;exact ⟨z,w,by simp [execOp,hz],Below.refl _ _,hzr,hzf⟩
 case binOp op t x y yt =>
  split at hp<;>try (cases hp; done)
  obtain ⟨h1,_⟩:=hov.get (i:=0) (x:=x) rfl rfl;obtain ⟨h2,_⟩:=hov.get (i:=1) (x:=y) rfl rfl;unfold orN at hp;split at hp
  · rename_i hb
    cases hp;obtain ⟨z,hz,hzr⟩:=binD_sound (P:=P) hr h1 h2 hb x y;refine ⟨z,w,?_,Below.refl _ _,hzr,binD_refs hb⟩;simp only [execOp,Sem.run_bind,Sem.run_pure] at hz ⊢;rw [hz];rfl
  · obtain ⟨z,hz,hzr,_,hzf⟩:=nilNil_sound (P:=P) (w:=w) (x:=x) h1 h2 hp
    refine ⟨z,w,?_,Below.refl _ _,hzr,hzf _⟩;simp only [execOp,Sem.run_bind,Sem.run_pure] at hz ⊢;rw [hz];rfl
 case convert s t x =>
  split at hp<;>try (cases hp; done)
  split at hp<;>try (cases hp; done)
  rename_i hk;obtain ⟨h1,_⟩:=hov.get (i:=0) (x:=x) rfl rfl;obtain ⟨z,w',hz,hb,hzr⟩:=convD_sound (P:=P) hr h1 hp hk;exact ⟨z,w',by simp [execOp,hz],hb,hzr,convD_refs hp⟩
 case slice t x lo hi mx =>
  split at hp<;>try (cases hp; done)
  rename_i a rest;have hov':OV m w h.next ρ (x::(lo.toArray.toList++(hi.toArray.toList++mx.toArray.toList))) (a::rest):=by simpa [Op.operands] using hov
  obtain ⟨⟨h1,h2⟩,t1⟩:=hov'.tail;obtain ⟨l1,l2,t2⟩:=takeO_sound t1;obtain ⟨u1,u2,t3⟩:=takeO_sound t2;have t3':OV m w h.next ρ (mx.toArray.toList ++ []) (takeO hi (takeO lo rest).2).2:=by simpa using t3
  obtain ⟨m1,m2,_⟩:=takeO_sound t3';have hm:(takeO mx (takeO hi (takeO lo rest).2).2).1=none:=by
    unfold sliceD at hp;split at hp
    · rename_i hq _ _; exact hq
    · cases hp
  rw [hm] at hp;obtain ⟨z,hz,hzr⟩:=slice_sound (P:=P) hr h1 l1 l2 u1 u2 hp;refine ⟨z,w,?_,Below.refl _ _,hzr,sliceD_refs h2 hp⟩;simp [execOp,m2 hm,hz]
 case call c =>
  obtain ⟨callee,args,tys⟩:=c;cases callee<;>simp only at hp<;>try (cases hp; done)
  rename_i b;have hops:=callee_args ⟨.builtin b,args,tys⟩ b rfl;rw [hops] at hov;cases b<;>simp only at hp<;>try (cases hp; done)
  case len =>
    split at hp<;>try (cases hp; done)
    split at hp<;>try (cases hp; done)
    rename_i hts;have hl:args.size=1:=by simpa using hov.1
    obtain ⟨a0,rfl⟩:=Array.size_eq_one_iff.1 hl;obtain ⟨h1,_⟩:=hov.get (i:=0) (x:=a0) (by simp) rfl
    obtain ⟨z,hz,hzr⟩:=lenD_sound (P:=P) hr h1 hp tys rfl hts type;refine ⟨z,w,?_,Below.refl _ _,hzr,lenD_refs hp⟩;simp [execOp,resolve,invoke,builtin,hz]
  case cap =>
    split at hp<;>try (cases hp; done)
    split at hp<;>try (cases hp; done)
    rename_i hts;have hl:args.size=1:=by simpa using hov.1
    obtain ⟨a0,rfl⟩:=Array.size_eq_one_iff.1 hl;obtain ⟨h1,_⟩:=hov.get (i:=0) (x:=a0) (by simp) rfl
    obtain ⟨z,hz,hzr⟩:=capD_sound (P:=P) h1 hp tys rfl hts type;refine ⟨z,w,?_,Below.refl _ _,hzr,?_⟩
    · simp [execOp,resolve,invoke,builtin,hz]
    · unfold capD at hp
      split at hp
      · split at hp
        · cases hp; rfl
        · cases hp
      · cases hp
  case max =>
    unfold minmaxD at hp;split at hp<;>try (cases hp; done)
    rename_i x xs
    cases hargs:args.toList with
    | nil=>rw [hargs] at hov; have:=hov.1; simp at this
    | cons y ys =>
      rw [hargs] at hov;obtain ⟨⟨h1,_⟩,h2⟩:=hov.tail;obtain ⟨z,hz,hzr⟩:=mmAll_sound (P:=P) (w:=w) (m:=m) true xs (ys.map ρ) x d (ρ y) h1 (by simpa using h2.1.symm) (fun i d v hd hv=>by
        simp only [List.getElem?_map,Option.map_eq_some_iff] at hv;obtain ⟨o,ho,rfl⟩:=hv;exact (h2.2 i o d ho hd).1) hp
      refine ⟨z,w,?_,Below.refl _ _,hzr,mmAll_refs xs x d hp⟩;simp only [if_true] at hz;simp [execOp,resolve,invoke,builtin,Builtin.max_,hargs,hz]
  case min =>
    unfold minmaxD at hp;split at hp<;>try (cases hp; done)
    rename_i x xs
    cases hargs:args.toList with
    | nil=>rw [hargs] at hov; have:=hov.1; simp at this
    | cons y ys =>
      rw [hargs] at hov;obtain ⟨⟨h1,_⟩,h2⟩:=hov.tail;obtain ⟨z,hz,hzr⟩:=mmAll_sound (P:=P) (w:=w) (m:=m) false xs (ys.map ρ) x d (ρ y) h1 (by simpa using h2.1.symm) (fun i d v hd hv=>by
        simp only [List.getElem?_map,Option.map_eq_some_iff] at hv;obtain ⟨o,ho,rfl⟩:=hv;exact (h2.2 i o d ho hd).1) hp
      refine ⟨z,w,?_,Below.refl _ _,hzr,mmAll_refs xs x d hp⟩;simp only [Bool.false_eq_true,if_false] at hz;simp [execOp,resolve,invoke,builtin,Builtin.min_,hargs,hz]
end
end Vai

namespace Vai
theorem size_two {α:Type}{a:Array α}(h:a.size=2):∃ x y,a = #[x,y]:=⟨a[0],a[1],Array.ext (by simp [h]) fun i h1 _=>by match i,(by omega:i<2) with|0,_=>rfl|1,_=>rfl⟩
open Go
open Go.RowKit (Below)
variable [Gl]
section
variable {P:Program}
theorem tk_kind {t:TypeId}:(∀ e,tk P t = .slice e→P.underlying t=some (.slice e))∧(tk P t = .str→P.underlying t=some .string)∧(∀ k,tk P t = .int k→P.underlying t=some (.int k)):=by
 simp only [tk_eq];unfold tk0
 cases h:P.underlying t with
 | none=>simp
 | some d=>cases d<;>simp [TK.of]
theorem effD_sound {m:M}{w:World}{h h':H}{d:D}(hr:HR m w h){o:Oper}{ρ:Operand→Value}{ds:List D}(hov:OV m w h.next ρ o.op.operands.toList ds)(hp:effD P h o.op ds=some (d,h')) :
  ∃ w' m',(∃ v,((execOp ρ o).run P w = .ok (.value v) w'∨((execOp ρ o).run P w = .ok .skip w'∧v=undef))∧Eff m w h d v w' h' m'):=by
 obtain ⟨dst,op,type,pos,after,guard⟩:=o;simp only at hov hp;cases op<;>simp only [effD] at hp<;>try (cases hp; done)
 case alloc t =>
  split at hp<;>try (cases hp; done)
  rename_i z hz;obtain ⟨zv,hzr,hzo⟩:=run_zeroT (P:=P) hz w;obtain ⟨u,w',m',h1,h2⟩:=varD_sound (P:=P) hr (.t (ofVal_tr hzo)) rfl hp;exact ⟨w',m',_,.inl (by simp [execOp,Instr.alloc,hzr,h1]),h2⟩
 case box t x =>
  split at hp<;>try (cases hp; done)
  obtain ⟨h1,h2⟩:=hov.get (i:=0) (x:=x) rfl rfl;obtain ⟨u,w',m',h3,h4⟩:=varD_sound (P:=P) hr h1 h2 hp;exact ⟨w',m',_,.inl (by simp [execOp,Instr.box,h3]),h4⟩
 case buildSlice t n parts =>
  have hov':OV m w h.next ρ (parts.toList.map (·.2)) ds:=by simpa [Op.operands] using hov
  obtain ⟨h1,h2⟩:=zip_pr hov';obtain ⟨v,w',m',h3,h4⟩:=buildSliceD_sound (P:=P) hr h1 h2 hp;refine ⟨w',m',v,.inl ?_,h4⟩;simp only [execOp,Sem.run_bind,h3,Result.andThen_ok];rfl
 case makeSlice t l c =>
  split at hp<;>try (cases hp; done)
  obtain ⟨h1,_⟩:=hov.get (i:=0) (x:=l) rfl rfl;obtain ⟨h2,_⟩:=hov.get (i:=1) (x:=c) rfl rfl;obtain ⟨v,w',m',h3,h4⟩:=makeSliceD_sound (P:=P) hr h1 h2 hp;exact ⟨w',m',v,.inl (by simp [execOp,h3]),h4⟩
 case store t a x =>
  split at hp<;>try (cases hp; done)
  obtain ⟨h1,h1r⟩:=hov.get (i:=0) (x:=a) rfl rfl;obtain ⟨h2,h2r⟩:=hov.get (i:=1) (x:=x) rfl rfl;obtain ⟨h'',hs,he⟩:=Option.map_eq_some_iff.1 hp;cases he;obtain ⟨w',h3,h4,h5,h6,h7⟩:=storeD_sound (P:=P) hr h1 h2 h2r hs;exact ⟨w',m,undef,.inr ⟨by simp [execOp,h3],rfl⟩,⟨h4,.undef _,h5,rfl,by omega,h7⟩⟩
 case makeMap t r =>
  split at hp<;>try (cases hp; done)
  obtain ⟨v,w',m',h3,h4⟩:=makeMapD_sound (P:=P) hr hp;exact ⟨w',m',v,.inl (by simp [execOp,h3]),h4⟩
 case mapUpdate t x k v =>
  split at hp<;>try (cases hp; done)
  obtain ⟨h1,_⟩:=hov.get (i:=0) (x:=x) rfl rfl;obtain ⟨h2,_⟩:=hov.get (i:=1) (x:=k) rfl rfl;obtain ⟨h3,h3r⟩:=hov.get (i:=2) (x:=v) rfl rfl;obtain ⟨h'',hs,he⟩:=Option.map_eq_some_iff.1 hp;cases he;obtain ⟨w',q3,q4,q5,q6,q7⟩:=mapUpdateD_sound (P:=P) hr h1 h2 h3 h3r hs;exact ⟨w',m,undef,.inr ⟨by simp [execOp,q3],rfl⟩,⟨q4,.undef _,q5,rfl,by omega,q7⟩⟩
 case insert t x k v =>
  split at hp<;>try (cases hp; done)
  obtain ⟨h1,_⟩:=hov.get (i:=0) (x:=x) rfl rfl;obtain ⟨h2,_⟩:=hov.get (i:=1) (x:=k) rfl rfl;obtain ⟨h3,h3r⟩:=hov.get (i:=2) (x:=v) rfl rfl;obtain ⟨h'',hs,he⟩:=Option.map_eq_some_iff.1 hp;cases he;obtain ⟨w',q3,q4,q5,q6,q7⟩:=mapUpdateD_sound (P:=P) hr h1 h2 h3 h3r hs;exact ⟨w',m,undef,.inr ⟨by simp [execOp,q3],rfl⟩,⟨q4,.undef _,q5,rfl,by omega,q7⟩⟩
 case mapEntry t x k =>
  split at hp<;>try (cases hp; done)
  obtain ⟨h1,_⟩:=hov.get (i:=0) (x:=x) rfl rfl;obtain ⟨h2,_⟩:=hov.get (i:=1) (x:=k) rfl rfl;obtain ⟨v,w',m',h3,h4⟩:=mapEntryD_sound (P:=P) hr h1 h2 hp;exact ⟨w',m',v,.inl (by simp [execOp,h3]),h4⟩
 case entryStore t x k v =>
  split at hp<;>try (cases hp; done)
  obtain ⟨h1,_⟩:=hov.get (i:=0) (x:=x) rfl rfl;obtain ⟨h2,_⟩:=hov.get (i:=1) (x:=k) rfl rfl;obtain ⟨h3,h3r⟩:=hov.get (i:=2) (x:=v) rfl rfl;obtain ⟨h'',hs,he⟩:=Option.map_eq_some_iff.1 hp;cases he;obtain ⟨w',q3,q4,q5,q6,q7⟩:=entryStoreD_sound (P:=P) (t:=t) hr h1 h2 h3 h3r hs;exact ⟨w',m,undef,.inr ⟨by simp [execOp,q3],rfl⟩,⟨q4,.undef _,q5,rfl,by omega,q7⟩⟩
 case range t x =>
  split at hp<;>try (cases hp; done)
  obtain ⟨h1,h2⟩:=hov.get (i:=0) (x:=x) rfl rfl;obtain ⟨v,w',m',h3,h4⟩:=rangeD_sound (P:=P) hr h1 hp;exact ⟨w',m',v,.inl (by simp [execOp,h3]),h4⟩
 case next x b =>
  split at hp<;>try (cases hp; done)
  obtain ⟨h1,h2⟩:=hov.get (i:=0) (x:=x) rfl rfl;obtain ⟨v,w',m',h3,h4⟩:=nextD_sound (P:=P) type hr h1 hp;exact ⟨w',m',v,.inl (by simp [execOp,h3]),h4⟩
 case call c =>
  obtain ⟨callee,args,tys⟩:=c;cases callee<;>simp only at hp<;>try (cases hp; done)
  rename_i b;have hops:=callee_args ⟨.builtin b,args,tys⟩ b rfl;rw [hops] at hov;cases b<;>simp only at hp<;>try (cases hp; done)
  case append =>
   split at hp<;>try (cases hp; done)
   rename_i a x;split at hp<;>try (cases hp; done)
   rename_i hts;have hl:args.size=2:=by simpa using hov.1
   obtain ⟨a0,x0,rfl⟩:=size_two hl;obtain ⟨t,u,rfl⟩:=size_two hts;obtain ⟨h1,h1r⟩:=hov.get (i:=0) (x:=a0) (by simp) rfl
   obtain ⟨h2,h2r⟩:=hov.get (i:=1) (x:=x0) (by simp) rfl
   simp only [Array.getD_eq_getD_getElem?,List.getElem?_toArray,List.getElem?_cons_zero,List.getElem?_cons_succ,Option.getD_some] at hp;split at hp
   · rename_i e hk
     obtain ⟨v,w',m',h3,h4⟩:=appendD_sound (P:=P) (ty:=type) hr h1 h2 h1r (.inl ⟨e,tk_kind.1 e hk⟩) hp;exact ⟨w',m',v,.inl (by simp [execOp,resolve,invoke,builtin,h3]),h4⟩
   · rename_i hk
     obtain ⟨v,w',m',h3,h4⟩:=appendD_sound (P:=P) (ty:=type) hr h1 h2 h1r (.inr (tk_kind.2.1 hk)) hp;exact ⟨w',m',v,.inl (by simp [execOp,resolve,invoke,builtin,h3]),h4⟩
   · rename_i k hk
     obtain ⟨v,w',m',h3,h4⟩:=appendZerosD_sound (P:=P) (ty:=type) hr h1 h2 (tk_kind.2.2 k hk) hp;exact ⟨w',m',v,.inl (by simp [execOp,resolve,invoke,builtin,h3]),h4⟩
   · cases hp
  case copy =>
   split at hp<;>try (cases hp; done)
   rename_i a x;split at hp<;>try (cases hp; done)
   rename_i hts;have hl:args.size=2:=by simpa using hov.1
   obtain ⟨a0,x0,rfl⟩:=size_two hl;obtain ⟨t,u,rfl⟩:=size_two hts;obtain ⟨h1,h1r⟩:=hov.get (i:=0) (x:=a0) (by simp) rfl
   obtain ⟨h2,h2r⟩:=hov.get (i:=1) (x:=x0) (by simp) rfl
   simp only [Array.getD_eq_getD_getElem?,List.getElem?_toArray,List.getElem?_cons_zero,Option.getD_some] at hp;obtain ⟨v,w',m',h3,h4⟩:=copyD_sound (P:=P) (ty:=type) (u:=u) hr h1 h2 hp;exact ⟨w',m',v,.inl (by simp [execOp,resolve,invoke,builtin,h3]),h4⟩
  case delete =>
   split at hp<;>try (cases hp; done)
   rename_i a x;split at hp<;>try (cases hp; done)
   rename_i hts;have hl:args.size=2:=by simpa using hov.1
   obtain ⟨a0,x0,rfl⟩:=size_two hl;obtain ⟨t,u,rfl⟩:=size_two hts;obtain ⟨h1,h1r⟩:=hov.get (i:=0) (x:=a0) (by simp) rfl
   obtain ⟨h2,h2r⟩:=hov.get (i:=1) (x:=x0) (by simp) rfl
   simp only [Array.getD_eq_getD_getElem?,List.getElem?_toArray,List.getElem?_cons_zero,Option.getD_some] at hp;obtain ⟨h'',hs,he⟩:=Option.map_eq_some_iff.1 hp;cases he;obtain ⟨w',q3,q4,q5,q6,q7⟩:=deleteD_sound (P:=P) (ty:=type) (u:=u) hr h1 h2 hs;exact ⟨w',m,.tuple #[],.inl (by simp [execOp,resolve,invoke,builtin,q3]),⟨q4,.tup rfl (fun i d v hd=>by simp at hd),q5,rfl,by omega,q7⟩⟩
end
end Vai
