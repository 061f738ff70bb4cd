import Derived.Test.YtaldobgfbkllfaaGreatDoorVaiC
set_option linter.unusedSimpArgs false
set_option linter.unusedVariables false
set_option linter.unusedSectionVars false
namespace Vai
open Go
variable [Gl]
open Classical in
noncomputable def lim {α:Type}(f:Nat→Option α):Option α:=if h:∃ r,∃ n,f n=some r then some h.choose else none
theorem lim_some {α:Type}{f:Nat→Option α}(hf:∀ n r,f n=some r→f (n+1)=some r){r:α}:lim f=some r↔∃ n,f n=some r:=by
 have up:∀ {n m:Nat} {r:α},n≤m→f n=some r→f m=some r:=by
   intro n m r h hn
   induction h with
   | refl=>exact hn
   | step _ ih=>exact hf _ _ ih
 unfold lim;constructor
 · intro h
   split at h
   · rename_i hh
     obtain ⟨n,hn⟩:=hh.choose_spec;simp only [Option.some.injEq] at h;exact ⟨n,h ▸ hn⟩
   · cases h
 · rintro ⟨n,hn⟩
   have hh:∃ r,∃ n,f n=some r:=⟨r,n,hn⟩;rw [dif_pos hh];obtain ⟨m,hm⟩:=hh.choose_spec;have h1:=up (Nat.le_max_left n m) hn;have h2:=up (Nat.le_max_right n m) hm;rw [h1] at h2;exact h2.symm
def CLe (c1 c2:ACall):Prop:=∀ k args h r,c1 k args h=some r→c2 k args h=some r
def FLe (f g:St→CR):Prop:=∀ st r,f st=some r→g st=some r
def ILe (i1 i2:Iter):Prop:=∀ f g,FLe f g→FLe (i1 f) (i2 g)
section
variable {cx:Cc}
theorem noPan_mono {c1 c2:ACall}(hc:CLe c1 c2){k:FuncId}{args:List D}{h:H}{r:D × H}(hh:noPan (c1 k args h)=some r):noPan (c2 k args h)=some r:=by
 obtain ⟨d,h'⟩:=r;have h1:=(noPan_some hh).1;rw [h1] at hh;rw [hc _ _ _ _ h1];exact hh
theorem callD_mono {c1 c2:ACall}(hc:CLe c1 c2){k:FuncId}{args:List D}{h:H}{r:D × H}(hh:callD cx c1 k args h=some r):callD cx c2 k args h=some r:=by
 unfold callD at hh ⊢;split at hh
 · rename_i hcb
   rw [if_pos hcb];split at hh
   · rename_i hm
     simp only [callPure] at hh ⊢;split at hh
     · cases hh
     · rename_i ts hts
       try rw [hts]
       try simp only
       split at hh
       · rename_i d h' hcall
         rw [hc _ _ _ _ hcall];exact hh
       · cases hh
   · rename_i hm
     simp only [callOwn] at hh ⊢;split at hh
     · cases hh
     · rename_i ts hts
       try rw [hts]
       try simp only
       split at hh
       · rename_i d h' hcall
         rw [hc _ _ _ _ hcall];exact hh
       · cases hh
   · rename_i hm
     exact noPan_mono hc hh
   · rename_i hm
     simp only [callDrop] at hh ⊢;split at hh
     · rename_i d h' hcall
       rw [noPan_mono hc hcall];exact hh
     · cases hh
   · rename_i hm
     simp only [callTree] at hh ⊢;split at hh
     · cases hh
     · rename_i ts hts
       try rw [hts]
       try simp only
       split at hh
       · rename_i d h' hcall
         rw [hc _ _ _ _ hcall];exact hh
       · cases hh
 · cases hh
theorem stepD_mono {c1 c2:ACall}(hc:CLe c1 c2){op:Op}{ds:List D}{h:H}{r:D × H}(hh:stepD cx c1 op ds h=some r):stepD cx c2 op ds h=some r:=by
 unfold stepD at hh ⊢;split at hh
 · exact hh
 · exact hh
 · exact hh
 · split at hh
   · split at hh
     · split at hh
       · exact callD_mono hc hh
       · cases hh
     · cases hh
   · cases hh
theorem runOper_mono {c1 c2:ACall}(hc:CLe c1 c2){o:Oper}{st r:St}(hh:runOper cx c1 o st=some r):runOper cx c2 o st=some r:=by
 unfold runOper at hh ⊢;split at hh
 · rename_i ds hds
   unfold thenR at hh;split at hh
   · rename_i d h' hs
     rw [stepD_mono hc hs];exact hh
   · cases hh
 · cases hh
theorem oper_mono {c1 c2:ACall}(hc:CLe c1 c2){ops:Array Oper}{o:Oper}{st r:St}(hh:oper cx c1 ops o st=some r):oper cx c2 ops o st=some r:=by
 unfold oper at hh ⊢;split at hh
 · exact runOper_mono hc hh
 · split at hh
   · split at hh
     · rename_i h; rw [if_pos h]; exact runOper_mono hc hh
     · rename_i h; rw [if_neg h]; exact hh
   · cases hh
theorem opList_mono {c1 c2:ACall}(hc:CLe c1 c2){ops:Array Oper}:∀ {l:List Oper} {st r:St},opList cx c1 ops l st=some r→opList cx c2 ops l st=some r
 | [],st,r,hh=>hh
 | o::os,st,r,hh=>by
  simp only [opList,thenA] at hh ⊢;split at hh
  · rename_i st1 ho
    rw [oper_mono hc ho];exact opList_mono hc hh
  · cases hh
theorem callX_mono {c1 c2:ACall}(hc:CLe c1 c2){k:FuncId}{args:List D}{h:H}{r:T × H}(hh:callX cx c1 k args h=some r):callX cx c2 k args h=some r:=by
 obtain ⟨x,h'⟩:=r;unfold callX at hh ⊢;split at hh
 · rename_i hcb
   rw [if_pos hcb];split at hh
   · have h1:=panOf_some hh
     rw [hc _ _ _ _ h1];rfl
   · cases hh
 · cases hh
theorem callX_none {c:ACall}{k:FuncId}{args:List D}{h:H}{r:T × H}(hh:callX cx c k args h=some r):callD cx c k args h=none:=by
 obtain ⟨x,h'⟩:=r;unfold callX at hh;unfold callD;split at hh
 · rename_i hcb
   rw [if_pos hcb];split at hh
   · rename_i hm
     simp only [hm];rw [panOf_some hh];rfl
   · cases hh
 · cases hh
theorem stepX_mono {c1 c2:ACall}(hc:CLe c1 c2){op:Op}{ds:List D}{h:H}{r:T × H}(hh:stepX cx c1 op ds h=some r):stepX cx c2 op ds h=some r:=by
 unfold stepX at hh ⊢;split at hh
 · exact hh
 · split at hh
   · rename_i hcal
     try simp only [hcal]
     split at hh
     · exact callX_mono hc hh
     · cases hh
   · cases hh
 · cases hh
theorem stepX_none {c:ACall}{op:Op}{ds:List D}{h:H}{r:T × H}(hh:stepX cx c op ds h=some r):stepD cx c op ds h=none:=by
 unfold stepX at hh;split at hh
 · rfl
 · rename_i c'
   split at hh
   · rename_i f hcal
     split at hh
     · rename_i k fs cs rest
       have hk:Op.kindD cx.lit (.call c')=3:=by simp only [Op.kindD,hcal]
       unfold stepD;rw [hk];simp only [hcal];exact callX_none hh
     · cases hh
   · cases hh
 · cases hh
theorem operX_mono {c1 c2:ACall}(hc:CLe c1 c2){ops:Array Oper}{o:Oper}{st:St}{r:T × H}(hh:operX cx c1 ops o st=some r):operX cx c2 ops o st=some r:=by
 have run:∀ {r},runX cx c1 o st=some r→runX cx c2 o st=some r:=by
   intro r hh;unfold runX at hh ⊢;split at hh
   · rename_i ds hds; try rw [hds]
     exact stepX_mono hc hh
   · cases hh
 unfold operX at hh ⊢;split at hh
 · exact run hh
 · split at hh
   · split at hh
     · rename_i h; rw [if_pos h]; exact run hh
     · cases hh
   · cases hh
theorem operX_none {c:ACall}{ops:Array Oper}{o:Oper}{st:St}{r:T × H}(hh:operX cx c ops o st=some r):oper cx c ops o st=none:=by
 have run:∀ {r},runX cx c o st=some r→runOper cx c o st=none:=by
   intro r hh;unfold runX at hh;unfold runOper;split at hh
   · rename_i ds hds
     try rw [hds]
     simp only [stepX_none hh,thenR]
   · cases hh
 unfold operX at hh;unfold oper;split at hh
 · exact run hh
 · split at hh
   · rename_i hy
     split at hh
     · rename_i h; try simp only [hy]
       rw [if_pos h]; exact run hh
     · cases hh
   · cases hh
theorem panList_mono {c1 c2:ACall}(hc:CLe c1 c2){ops:Array Oper}{r:T × St}:∀ {l:List Oper} {st:St},panList cx c1 ops l st=some r→panList cx c2 ops l st=some r
 | [],st,hh=>by cases hh
 | o::os,st,hh=>by
  simp only [panList] at hh ⊢;split at hh
  · rename_i st1 ho
    rw [oper_mono hc ho];exact panList_mono hc hh
  · cases hX:operX cx c1 ops o st with
    | none=>rw [hX] at hh; cases hh
    | some r1 =>
    rw [hX] at hh;have h2:=operX_mono hc hX;rw [operX_none h2];simp only [h2];exact hh
theorem panList_none {c:ACall}{ops:Array Oper}{r:T × St}:∀ {l:List Oper} {st:St},panList cx c ops l st=some r→opList cx c ops l st=none
 | [],st,hh=>by cases hh
 | o::os,st,hh=>by
  simp only [panList] at hh;simp only [opList];split at hh
  · rename_i st1 ho
    rw [ho];exact panList_none hh
  · rename_i ho
    rw [ho];rfl
theorem opListH_mono {c1 c2:ACall}(hc:CLe c1 c2){ops:Array Oper}:∀ {l:List Oper} {st:St} {r:St × List H},opListH cx c1 ops l st=some r→opListH cx c2 ops l st=some r
 | [],st,r,hh=>hh
 | o::os,st,r,hh=>by
  simp only [opListH] at hh ⊢;split at hh
  · cases hh
  · rename_i st1 ho
    rw [oper_mono hc ho];split at hh
    · cases hh
    · rename_i fin hs hr
      simp only [opListH_mono hc hr];exact hh
theorem steady_mono {c1 c2:ACall}(hc:CLe c1 c2){ops:Array Oper}{fin:St}{hs:List H}:∀ {prs:List (Nat × Nat)},steady cx c1 ops fin hs prs=true→steady cx c2 ops fin hs prs=true
 | [],_=>rfl
 | (i,v)::rest,h=>by
  simp only [steady,Bool.and_eq_true] at h ⊢;refine ⟨?_,steady_mono hc h.2⟩;have h1:=h.1;split at h1
  · rename_i o hh ho hv
    unfold sameOut at h1;split at h1
    · rename_i st1 hop
      simp only [ho,hv,oper_mono hc hop,sameOut];exact h1
    · cases h1
  · cases h1
theorem drawC_mono {c1 c2:ACall}(hc:CLe c1 c2){ops:Array Oper}{st:St}{r:X × St}{o:Option (Option (List (Nat × Nat)))}(h:drawC cx c1 ops st o=some r):drawC cx c2 ops st o=some r:=by
 rcases o with _|_|prs
 · simp only [drawC] at h ⊢
   cases ho:opList cx c1 ops ops.toList st with
   | some st1 =>
     rw [ho] at h;rw [opList_mono hc ho];exact h
   | none =>
     rw [ho] at h;simp only [regK] at h
     cases hp:panList cx c1 ops ops.toList st with
     | none=>rw [hp] at h; cases h
     | some p =>
       rw [hp] at h;have h2:=panList_mono hc hp;rw [panList_none h2,h2];exact h
 · simp only [drawC,regC] at h ⊢
   split at h
   · rename_i st1 ho
     rw [opList_mono hc ho];exact h
   · cases h
 · simp only [drawC,hardC] at h ⊢
   split at h
   · rename_i fin hs hr
     split at h
     · rename_i hst
       simp only [opListH_mono hc hr,steady_mono hc hst,if_true];exact h
     · cases h
   · cases h
theorem code_mono {c1 c2:ACall}(hc:CLe c1 c2){i1 i2:Iter}(hi:ILe i1 i2):∀ (c:Code),FLe (code cx c1 i1 c) (code cx c2 i2 c):=by
 intro c
 induction c with
 | region id ops draw =>
  intro st r h;simp only [code] at h ⊢;exact drawC_mono hc h
 | seq a b iha ihb =>
  intro st r h;simp only [code,thenC] at h ⊢
  cases ha:code cx c1 i1 a st with
  | none=>rw [ha] at h; cases h
  | some x =>
    obtain ⟨x,st1⟩:=x;rw [ha] at h;rw [iha st _ ha]
    cases x with
    | norm=>exact ihb _ _ h
    | _=>exact h
 | cond c a b iha ihb =>
  intro st r h;simp only [code,condC] at h ⊢;split at h
  · rename_i b' hb
    cases b'
    · exact ihb _ _ h
    · exact iha _ _ h
  · cases h
 | block id c ih =>
  intro st r h;simp only [code,blockC] at h ⊢
  cases ha:code cx c1 i1 c st with
  | none=>rw [ha] at h; cases h
  | some x=>rw [ha] at h; rw [ih st _ ha]; exact h
 | loop c ih=>intro st r h; exact hi _ _ ih st r h
 | _=>intro st r h; first|exact h|(simp [code] at h)
theorem iter_le:∀ {n m:Nat},n≤m→ILe (iter n) (iter m)
 | 0,m,_=>fun f g _ st r h=>by cases h
 | n+1,0,h=>by omega
 | n+1,m+1,h=>fun f g hfg st r hh=>by
  simp only [iter] at hh ⊢
  cases hf:f st with
  | none=>rw [hf] at hh; cases hh
  | some x =>
   obtain ⟨x,st1⟩:=x;rw [hf] at hh;rw [hfg _ _ hf]
   cases x with
   | norm=>exact iter_le (by omega) f g hfg _ _ hh
   | _=>exact hh
end
section
variable {cx:Cx}{prim:FuncId→Option ACall}
theorem func_mono {c1 c2:ACall}(hc:CLe c1 c2){i1 i2:Iter}(hi:ILe i1 i2):CLe (func cx c1 i1) (func cx c2 i2):=by
 intro k args h r hh;unfold func at hh ⊢;split at hh
 · rename_i fn hf
   split at hh
   · rename_i hcond
     rw [if_pos hcond];unfold endC at hh ⊢
     cases hcode:code (cx.at k) c1 i1 (bodyOf fn) ⟨fn.ntmps,enterE args,h⟩ with
     | none=>rw [hcode] at hh; cases hh
     | some x =>
      rw [hcode] at hh;rw [code_mono hc hi _ _ _ hcode];exact hh
   · cases hh
 · cases hh
theorem callN_le:∀ {n m:Nat},n≤m→CLe (callN cx prim n) (callN cx prim m)
 | 0,m,_=>fun k args h r hh=>by cases hh
 | n+1,0,h=>by omega
 | n+1,m+1,h=>fun k args hp r hh=>by
  unfold callN at hh ⊢;split at hh
  · exact hh
  · exact func_mono (callN_le (by omega)) (iter_le (by omega)) _ _ _ _ hh
noncomputable def call (cx:Cx)(prim:FuncId→Option ACall):ACall:=fun k args h=>lim fun n=>callN cx prim n k args h
noncomputable def loopω:Iter:=fun f st=>lim fun n=>iter n f st
theorem call_some {k:FuncId}{args:List D}{h:H}{r:D × H}:call cx prim k args h=some r↔∃ n,callN cx prim n k args h=some r :=
 lim_some fun n r hr=>callN_le (Nat.le_succ n) _ _ _ _ hr
theorem loop_some {f:St→CR}{st:St}{r:X × St}:loopω f st=some r↔∃ n,iter n f st=some r :=
 lim_some fun n r hr=>iter_le (Nat.le_succ n) f f (fun _ _ h=>h) _ _ hr
theorem loop_eq (f:St→CR)(st:St):loopω f st=match f st with|some (.norm,st')=>loopω f st'|r=>r:=by
 cases hf:f st with
 | none =>
  cases hl:loopω f st with
  | none=>rfl
  | some r =>
   obtain ⟨n,hn⟩:=loop_some.1 hl
   cases n with
   | zero=>cases hn
   | succ n=>simp only [iter,hf] at hn; cases hn
 | some x =>
  obtain ⟨x,st1⟩:=x
  cases x with
  | norm =>
   simp only
   cases hl:loopω f st1 with
   | none =>
    cases hl2:loopω f st with
    | none=>rfl
    | some r =>
     obtain ⟨n,hn⟩:=loop_some.1 hl2
     cases n with
     | zero=>cases hn
     | succ n =>
      simp only [iter,hf] at hn;rw [loop_some.2 ⟨n,hn⟩] at hl;cases hl
   | some r =>
    obtain ⟨n,hn⟩:=loop_some.1 hl;exact loop_some.2 ⟨n+1,by simp only [iter,hf]; exact hn⟩
  | _=>exact loop_some.2 ⟨1,by simp only [iter,hf]⟩
def Ev (f:Nat→Prop):Prop:=∃ n,∀ m,n≤m→f m
theorem Ev.and {f g:Nat→Prop}(hf:Ev f)(hg:Ev g):Ev fun n=>f n∧g n:=by
 obtain ⟨a,ha⟩:=hf;obtain ⟨b,hb⟩:=hg;exact ⟨max a b,fun m hm=>⟨ha m (by omega),hb m (by omega)⟩⟩
theorem Ev.mono {f g:Nat→Prop}(h:∀ n,f n→g n)(hf:Ev f):Ev g:=hf.elim fun n hn=>⟨n,fun m hm=>h m (hn m hm)⟩
theorem Ev.all {f:Nat→Prop}(h:∀ n,f n):Ev f:=⟨0,fun m _=>h m⟩
theorem call_ev {k:FuncId}{args:List D}{h:H}{r:D × H}(hc:call cx prim k args h=some r):Ev fun n=>callN cx prim n k args h=some r:=by
 obtain ⟨n,hn⟩:=call_some.1 hc;exact ⟨n,fun m hm=>callN_le hm _ _ _ _ hn⟩
theorem noPan_ev {k:FuncId}{args:List D}{h:H}{r:D × H}(hh:noPan (call cx prim k args h)=some r):Ev fun n=>noPan (callN cx prim n k args h)=some r:=by
 obtain ⟨d,h'⟩:=r;have h1:=(noPan_some hh).1;rw [h1] at hh;exact (call_ev h1).mono fun n hn=>by rw [hn]; exact hh
theorem callD_ev {cc:Cc}{k:FuncId}{args:List D}{h:H}{r:D × H}(hh:callD cc (call cx prim) k args h=some r):Ev fun n=>callD cc (callN cx prim n) k args h=some r:=by
 unfold callD at hh ⊢;split at hh
 · rename_i hcb
   try simp only [hcb,if_true]
   split at hh
   · rename_i hm
     simp only [callPure] at hh ⊢;split at hh
     · cases hh
     · rename_i ts hts
       try simp only [hts]
       split at hh
       · rename_i d h' hcall
         exact (call_ev hcall).mono fun n hn=>by simp only [hn]; exact hh
       · cases hh
   · rename_i hm
     simp only [callOwn] at hh ⊢;split at hh
     · cases hh
     · rename_i ts hts
       try simp only [hts]
       split at hh
       · rename_i d h' hcall
         exact (call_ev hcall).mono fun n hn=>by simp only [hn]; exact hh
       · cases hh
   · rename_i hm
     exact noPan_ev hh
   · rename_i hm
     simp only [callDrop] at hh ⊢;split at hh
     · rename_i d h' hcall
       exact (noPan_ev hcall).mono fun n hn=>by simp only [hn]; exact hh
     · cases hh
   · rename_i hm
     simp only [callTree] at hh ⊢;split at hh
     · cases hh
     · rename_i ts hts
       try simp only [hts]
       split at hh
       · rename_i d h' hcall
         exact (call_ev hcall).mono fun n hn=>by simp only [hn]; exact hh
       · cases hh
 · cases hh
theorem stepD_ev {cc:Cc}{op:Op}{ds:List D}{h:H}{r:D × H}(hh:stepD cc (call cx prim) op ds h=some r):Ev fun n=>stepD cc (callN cx prim n) op ds h=some r:=by
 unfold stepD at hh ⊢;split at hh
 · exact .all fun n=>hh
 · exact .all fun n=>hh
 · exact .all fun n=>hh
 · split at hh
   · split at hh
     · split at hh
       · exact callD_ev hh
       · cases hh
     · cases hh
   · cases hh
theorem oper_ev {cc:Cc}{ops:Array Oper}{o:Oper}{st r:St}(hh:oper cc (call cx prim) ops o st=some r):Ev fun n=>oper cc (callN cx prim n) ops o st=some r:=by
 have run:∀ {r},runOper cc (call cx prim) o st=some r→Ev fun n=>runOper cc (callN cx prim n) o st=some r:=by
   intro r hh;unfold runOper at hh ⊢;split at hh
   · rename_i ds hds
     try simp only [hds]
     unfold thenR at hh;split at hh
     · rename_i d h' hs
       exact (stepD_ev hs).mono fun n hn=>by rw [hn]; exact hh
     · cases hh
   · cases hh
 unfold oper at hh ⊢;split at hh
 · exact run hh
 · split at hh
   · split at hh
     · rename_i h; simp only [h,if_true]; exact run hh
     · rename_i h; simp only [h,if_false]; exact .all fun _=>hh
   · cases hh
theorem opList_ev {cc:Cc}{ops:Array Oper}:∀ {l:List Oper} {st r:St},opList cc (call cx prim) ops l st=some r→Ev fun n=>opList cc (callN cx prim n) ops l st=some r
 | [],st,r,hh=>.all fun _=>hh
 | o::os,st,r,hh=>by
  simp only [opList,thenA] at hh ⊢;split at hh
  · rename_i st1 ho
    exact ((oper_ev ho).and (opList_ev hh)).mono fun n hn=>by rw [hn.1]; exact hn.2
  · cases hh
theorem opListH_ev {cc:Cc}{ops:Array Oper}:∀ {l:List Oper} {st:St} {r:St × List H},opListH cc (call cx prim) ops l st=some r→Ev fun n=>opListH cc (callN cx prim n) ops l st=some r
 | [],st,r,hh=>.all fun _=>hh
 | o::os,st,r,hh=>by
  simp only [opListH] at hh ⊢;split at hh
  · cases hh
  · rename_i st1 ho
    split at hh
    · cases hh
    · rename_i fin hs hr
      exact ((oper_ev ho).and (opListH_ev hr)).mono fun n hn=>by simp only [hn.1,hn.2]; exact hh
theorem steady_ev {cc:Cc}{ops:Array Oper}{fin:St}{hs:List H}:∀ {prs:List (Nat × Nat)},steady cc (call cx prim) ops fin hs prs=true→Ev fun n=>steady cc (callN cx prim n) ops fin hs prs=true
 | [],_=>.all fun _=>rfl
 | (i,v)::rest,h=>by
  simp only [steady,Bool.and_eq_true] at h ⊢;refine Ev.and ?_ (steady_ev h.2);have h1:=h.1;split at h1
  · rename_i o hh ho hv
    unfold sameOut at h1;split at h1
    · rename_i st1 hop
      exact (oper_ev hop).mono fun n hn=>by simp only [ho,hv,hn,sameOut]; exact h1
    · cases h1
  · cases h1
theorem operX_ev {cc:Cc}{ops:Array Oper}{o:Oper}{st:St}{r:T × H}(hh:operX cc (call cx prim) ops o st=some r):Ev fun n=>operX cc (callN cx prim n) ops o st=some r:=by
 have cX:∀ {k:FuncId} {args:List D} {h:H} {r:T × H},callX cc (call cx prim) k args h=some r→Ev fun n=>callX cc (callN cx prim n) k args h=some r:=by
   intro k args h r hh;obtain ⟨x,h'⟩:=r;unfold callX at hh ⊢;split at hh
   · rename_i hcb
     split at hh
     · rename_i hm
       exact (call_ev (panOf_some hh)).mono fun n hn=>by simp only [hcb,if_true,hn]; rfl
     · cases hh
   · cases hh
 have sX:∀ {op:Op} {ds:List D} {h:H} {r:T × H},stepX cc (call cx prim) op ds h=some r→Ev fun n=>stepX cc (callN cx prim n) op ds h=some r:=by
   intro op ds h r hh;unfold stepX at hh ⊢;split at hh
   · exact .all fun _=>hh
   · split at hh
     · rename_i hcal
       try simp only [hcal]
       split at hh
       · exact cX hh
       · cases hh
     · cases hh
   · cases hh
 have run:∀ {r},runX cc (call cx prim) o st=some r→Ev fun n=>runX cc (callN cx prim n) o st=some r:=by
   intro r hh;unfold runX at hh ⊢;split at hh
   · rename_i ds hds; try simp only [hds]
     exact sX hh
   · cases hh
 unfold operX at hh ⊢;split at hh
 · exact run hh
 · split at hh
   · rename_i hy
     try simp only [hy]
     split at hh
     · rename_i h; simp only [h,if_true]; exact run hh
     · cases hh
   · cases hh
theorem panList_ev {cc:Cc}{ops:Array Oper}{r:T × St}:∀ {l:List Oper} {st:St},panList cc (call cx prim) ops l st=some r→Ev fun n=>panList cc (callN cx prim n) ops l st=some r
 | [],st,hh=>by cases hh
 | o::os,st,hh=>by
  simp only [panList] at hh ⊢;split at hh
  · rename_i st1 ho
    exact ((oper_ev ho).and (panList_ev hh)).mono fun n hn=>by rw [hn.1]; exact hn.2
  · cases hX:operX cc (call cx prim) ops o st with
    | none=>rw [hX] at hh; cases hh
    | some r1 =>
    rw [hX] at hh;exact (operX_ev hX).mono fun n hn=>by rw [operX_none hn]; simp only [hn]; exact hh
theorem drawC_ev {cc:Cc}{ops:Array Oper}{st:St}{r:X × St}{o:Option (Option (List (Nat × Nat)))}(h:drawC cc (call cx prim) ops st o=some r):Ev fun n=>drawC cc (callN cx prim n) ops st o=some r:=by
 rcases o with _|_|prs
 · simp only [drawC] at h ⊢
   cases ho:opList cc (call cx prim) ops ops.toList st with
   | some st1 =>
     rw [ho] at h;exact (opList_ev ho).mono fun n hn=>by rw [hn]; exact h
   | none =>
     rw [ho] at h;simp only [regK] at h
     cases hp:panList cc (call cx prim) ops ops.toList st with
     | none=>rw [hp] at h; cases h
     | some p =>
       rw [hp] at h;exact (panList_ev hp).mono fun n hn=>by rw [panList_none hn,hn]; exact h
 · simp only [drawC,regC] at h ⊢
   split at h
   · rename_i st1 ho
     exact (opList_ev ho).mono fun n hn=>by rw [hn]; exact h
   · cases h
 · simp only [drawC,hardC] at h ⊢
   split at h
   · rename_i fin hs hr
     split at h
     · rename_i hst
       exact ((opListH_ev hr).and (steady_ev hst)).mono fun n hn=>by simp only [hn.1,hn.2,if_true]; exact h
     · cases h
   · cases h
theorem code_ev {cc:Cc}:∀ (c:Code) {st:St} {r:X × St},code cc (call cx prim) loopω c st=some r→Ev fun n=>code cc (callN cx prim n) (iter n) c st=some r:=by
 intro c
 induction c with
 | region id ops draw =>
  intro st r h;simp only [code] at h ⊢;exact drawC_ev h
 | seq a b iha ihb =>
  intro st r h;simp only [code,thenC] at h ⊢
  cases ha:code cc (call cx prim) loopω a st with
  | none=>rw [ha] at h; cases h
  | some x =>
    obtain ⟨x,st1⟩:=x;rw [ha] at h
    cases x with
    | norm=>exact ((iha ha).and (ihb h)).mono fun n hn=>by rw [hn.1]; exact hn.2
    | _=>exact (iha ha).mono fun n hn=>by rw [hn]; exact h
 | cond c a b iha ihb =>
  intro st r h;simp only [code,condC] at h ⊢;split at h
  · rename_i b' hb
    cases b'
    · exact ihb h
    · exact iha h
  · cases h
 | block id c ih =>
  intro st r h;simp only [code,blockC] at h ⊢
  cases ha:code cc (call cx prim) loopω c st with
  | none=>rw [ha] at h; cases h
  | some x=>rw [ha] at h; exact (ih ha).mono fun n hn=>by rw [hn]; exact h
 | loop c ih =>
  intro st r h;simp only [code] at h ⊢;obtain ⟨N,hN⟩:=loop_some.1 h;have key:∀ (N:Nat) (st:St),iter N (code cc (call cx prim) loopω c) st=some r→Ev fun n=>iter N (code cc (callN cx prim n) (iter n) c) st=some r:=by
    intro N
    induction N with
    | zero=>intro st h; cases h
    | succ N ihN =>
      intro st h;simp only [iter] at h ⊢
      cases hf:code cc (call cx prim) loopω c st with
      | none=>rw [hf] at h; cases h
      | some x =>
       obtain ⟨x,st1⟩:=x;rw [hf] at h
       cases x with
       | norm=>exact ((ih hf).and (ihN _ h)).mono fun n hn=>by rw [hn.1]; exact hn.2
       | _=>exact (ih hf).mono fun n hn=>by rw [hn]; exact h
  obtain ⟨n0,h0⟩:=key N st hN;exact ⟨max n0 N,fun m hm=>iter_le (by omega) _ _ (fun _ _ h=>h) _ _ (h0 m (by omega))⟩
 | _=>intro st r h; exact .all fun n=>by first|exact h|(simp [code] at h)
theorem callN_call {n:Nat}:CLe (callN cx prim n) (call cx prim):=fun k args h r hh=>call_some.2 ⟨n,hh⟩
theorem iter_loop {n:Nat}:ILe (iter n) loopω:=fun f g hfg st r hh=>loop_some.2 ⟨n,iter_le (Nat.le_refl n) f g hfg st r hh⟩
theorem call_prim {k:FuncId}{g:ACall}(hg:prim k=some g)(args:List D)(h:H):call cx prim k args h=g k args h:=by
 cases hh:g k args h with
 | none =>
  cases hc:call cx prim k args h with
  | none=>rfl
  | some r =>
   obtain ⟨n,hn⟩:=call_some.1 hc
   cases n with
   | zero=>cases hn
   | succ n=>simp only [callN,hg,hh] at hn; cases hn
 | some r=>exact call_some.2 ⟨1,by simp only [callN,hg,hh]⟩
theorem call_func {k:FuncId}(hg:prim k=none)(args:List D)(h:H):call cx prim k args h=func cx (call cx prim) loopω k args h:=by
 cases hh:func cx (call cx prim) loopω k args h with
 | none =>
  cases hc:call cx prim k args h with
  | none=>rfl
  | some r =>
   obtain ⟨n,hn⟩:=call_some.1 hc
   cases n with
   | zero=>cases hn
   | succ n =>
     simp only [callN,hg] at hn;rw [func_mono callN_call iter_loop _ _ _ _ hn] at hh;cases hh
 | some r =>
  have:Ev fun n=>func cx (callN cx prim n) (iter n) k args h=some r:=by
   unfold func at hh ⊢;split at hh
   · rename_i fn hf
     try simp only [hf]
     split at hh
     · rename_i hcond
       simp only [hcond,and_self,if_true];unfold endC at hh ⊢
       cases hcode:code (cx.at k) (call cx prim) loopω (bodyOf fn) ⟨fn.ntmps,enterE args,h⟩ with
       | none=>rw [hcode] at hh; cases hh
       | some x =>
        rw [hcode] at hh;exact (code_ev _ hcode).mono fun n hn=>by rw [hn]; exact hh
     · cases hh
   · cases hh
  obtain ⟨n,hn⟩:=this;exact call_some.2 ⟨n+1,by simp only [callN,hg]; exact hn n (Nat.le_refl _)⟩
end
end Vai

namespace Vai
open Go
variable [Gl]
section
variable {cx:Cc}{call:ACall}{it:Iter}{ops:Array Oper}{l:List Oper}{st st':St}{c a b:Code}
theorem code_skip:code cx call it .skip st=some (.norm,st):=rfl
theorem code_region {id:Nat}{d:Bool}:code cx call it (.region id ops d) st=drawC cx call ops st (if d then some (cx.hard id) else none):=rfl
def regZ (cx:Cc)(call:ACall)(ops:Array Oper)(st:St)(r:Option St):CR:=regK r fun _=>panList cx call ops ops.toList st
theorem regZ_some {st1:St}:regZ cx call ops st (some st1)=some (.norm,st1):=rfl
theorem regZ_none:regZ cx call ops st none=panK (panList cx call ops ops.toList st):=rfl
theorem panK_some {x:T}:panK (some (x,st))=some (.pan x,st):=rfl
theorem panAt_some {x:T}{h:H}:panAt st (some (x,h))=some (x,{ st with h:=h }):=rfl
def panZ (cx:Cc)(call:ACall)(ops:Array Oper)(o:Oper)(os:List Oper)(st:St):Option St→Option (T × St)
 | some st1=>panList cx call ops os st1
 | none=>panAt st (operX cx call ops o st)
theorem panZ_some {o:Oper}{st1:St}:panZ cx call ops o l st (some st1)=panList cx call ops l st1:=rfl
theorem panZ_none {o:Oper}:panZ cx call ops o l st none=panAt st (operX cx call ops o st):=rfl
theorem panList_cons {o:Oper}:panList cx call ops (o::l) st=panZ cx call ops o l st (oper cx call ops o st):=by
 simp only [panList,panZ];cases oper cx call ops o st<;>rfl
def runXK (cx:Cc)(call:ACall)(op:Op)(st:St):Option (List D)→Option (T × H)
 | some ds=>stepX cx call op ds st.h
 | none=>none
theorem runXK_some {op:Op}{ds:List D}:runXK cx call op st (some ds)=stepX cx call op ds st.h:=rfl
theorem operX_plain {dst:Option Tmp}{op:Op}{ty:TypeId}{pos:String}{after:Array Edge}:operX cx call ops ⟨dst,op,ty,pos,after,none⟩ st=runXK cx call op st (allM st.ev op.operands.toList):=by
 simp only [operX,runX,runXK];cases allM st.ev op.operands.toList<;>rfl
theorem thenC_pan {x:T}{k:St→CR}:thenC (some (.pan x,st)) k=some (.pan x,st):=rfl
theorem blockC_pan {i:Nat}{x:T}:blockC i (some (.pan x,st))=some (.pan x,st):=rfl
theorem thenR_none {dst:Option Tmp}:thenR st dst none=none:=rfl
theorem thenA_none {k:St→Option St}:thenA none k=none:=rfl
attribute [simp] regZ_some regZ_none panK_some panAt_some panZ_some panZ_none panList_cons runXK_some operX_plain thenC_pan blockC_pan thenR_none thenA_none stepX
theorem drawC_none:drawC cx call ops st none=regZ cx call ops st (opList cx call ops ops.toList st):=rfl
theorem drawC_easy:drawC cx call ops st (some none)=regC (opList cx call ops ops.toList st):=rfl
def addH (b:Bool)(h:H):Option (St × List H)→Option (St × List H)
 | some (fin,hs)=>some (fin,if b then h::hs else hs)
 | none=>none
theorem addH_some {b:Bool}{h:H}{fin:St}{hs:List H}:addH b h (some (fin,hs))=some (fin,if b then h::hs else hs):=rfl
def thenH (b:Bool)(h:H)(r:Option St)(k:St→Option (St × List H)):Option (St × List H):=match r with
 | some st=>addH b h (k st)
 | none=>none
theorem thenH_some {b:Bool}{h:H}{k:St→Option (St × List H)}:thenH b h (some st) k=addH b h (k st):=rfl
theorem opListH_nil:opListH cx call ops [] st=some (st,[st.h]):=rfl
theorem opListH_cons {o:Oper}:opListH cx call ops (o::l) st=thenH (Op.levelD cx o.op == 2) st.h (oper cx call ops o st) (opListH cx call ops l):=by
 simp only [opListH,thenH,addH]
 cases oper cx call ops o st with
 | none=>rfl
 | some st1 =>
  simp only;cases opListH cx call ops l st1<;>rfl
def hardK (cx:Cc)(call:ACall)(ops:Array Oper)(prs:List (Nat × Nat)):Option (St × List H)→CR
 | some (fin,hs)=>if steady cx call ops fin hs prs=true then some (.norm,fin) else none
 | none=>none
theorem drawC_some {prs:List (Nat × Nat)}:drawC cx call ops st (some (some prs))=hardK cx call ops prs (opListH cx call ops ops.toList st):=by
 simp only [drawC,hardC,hardK];cases opListH cx call ops ops.toList st<;>rfl
theorem hardK_some {prs:List (Nat × Nat)}{fin:St}{hs:List H}:hardK cx call ops prs (some (fin,hs))=if steady cx call ops fin hs prs=true then some (.norm,fin) else none:=rfl
def steadyK (cx:Cc)(call:ACall)(ops:Array Oper)(fin:St):Option Oper→Option H→Bool
 | some o,some h=>sameOut o.dst fin (oper cx call ops o { fin with h:=h })
 | _,_=>false
theorem steadyK_some {o:Oper}{h:H}{fin:St}:steadyK cx call ops fin (some o) (some h)=sameOut o.dst fin (oper cx call ops o { fin with h:=h }):=rfl
theorem steady_nil {fin:St}{hs:List H}:steady cx call ops fin hs []=true:=rfl
theorem steady_cons {fin:St}{hs:List H}{i v:Nat}{rest:List (Nat × Nat)}:steady cx call ops fin hs ((i,v)::rest)=(steadyK cx call ops fin ops.toList[i]? hs[v]? && steady cx call ops fin hs rest):=by
 rw [Array.getElem?_toList];simp only [steady,steadyK];cases ops[i]?<;>cases hs[v]?<;>rfl
theorem sameOut_some {t:Tmp}{fin:St}:sameOut (some t) fin (some st)=D.beq (st.env t) (fin.env t):=rfl
theorem dbeq_t {a b:T}:D.beq (.t a) (.t b)=T.beq a b:=rfl
theorem dbeq_tup0:D.beq (.tup []) (.tup [])=true:=rfl
theorem dbeq_ptr {a b c d:Nat}:D.beq (.ptr a b c d) (.ptr a b c d)=true:=by simp [D.beq]
theorem dbeq_row {a b c d:Nat}:D.beq (.row a b c d) (.row a b c d)=true:=by simp [D.beq]
theorem dbeq_eptr {a:T}{f:Nat}:D.beq (.eptr a f) (.eptr a f)=true:=by simp [D.beq,T.beq_self]
theorem code_seq:code cx call it (.seq a b) st=thenC (code cx call it a st) (code cx call it b):=rfl
def condK (c:Option D)(p q:St→CR)(st:St):CR:=condC c (p st) (q st)
theorem code_cond {x:Operand}:code cx call it (.cond x a b) st=condK (st.ev x) (code cx call it a) (code cx call it b) st:=rfl
theorem code_ret:code cx call it .ret st=some (.ret,st):=rfl
theorem thenC_norm {k:St→CR}:thenC (some (.norm,st)) k=k st:=rfl
theorem thenC_exit {i:Nat}{k:St→CR}:thenC (some (.exit i,st)) k=some (.exit i,st):=rfl
theorem thenC_ret {k:St→CR}:thenC (some (.ret,st)) k=some (.ret,st):=rfl
theorem blockC_norm {i:Nat}:blockC i (some (.norm,st))=some (.norm,st):=rfl
theorem blockC_ret {i:Nat}:blockC i (some (.ret,st))=some (.ret,st):=rfl
theorem blockC_exit {i j:Nat}:blockC i (some (.exit j,st))=if j=i then some (.norm,st) else some (.exit j,st):=rfl
theorem regC_some:regC (some st)=some (.norm,st):=rfl
theorem condK_true {p q:St→CR}:condK (some (.t (.bool true))) p q st=p st:=rfl
theorem condK_false {p q:St→CR}:condK (some (.t (.bool false))) p q st=q st:=rfl
theorem opList_nil:opList cx call ops [] st=some st:=rfl
theorem opList_cons {o:Oper}:opList cx call ops (o::l) st=thenA (oper cx call ops o st) (opList cx call ops l):=rfl
theorem thenA_some {k:St→Option St}:thenA (some st) k=k st:=rfl
def runK (cx:Cc)(call:ACall)(op:Op)(dst:Option Tmp)(st:St):Option (List D)→Option St
 | some ds=>thenR st dst (stepD cx call op ds st.h)
 | none=>none
theorem runK_some {op:Op}{dst:Option Tmp}{ds:List D}:runK cx call op dst st (some ds)=thenR st dst (stepD cx call op ds st.h):=rfl
def guardK (b:Option (Option Bool))(want:Bool)(k:St→Option St)(dst:Option Tmp)(st:St):Option St:=match b with
 | some y=>if y=some want then k st else some (st.put dst (.tup []))
 | none=>none
theorem guardK_some {y:Option Bool}{want:Bool}{k:St→Option St}{dst:Option Tmp}:guardK (some y) want k dst st=if y=some want then k st else some (st.put dst (.tup [])):=rfl
def runK' (cx:Cc)(call:ACall)(op:Op)(dst:Option Tmp)(st:St):Option St:=runK cx call op dst st (allM st.ev op.operands.toList)
theorem runK'_eq {op:Op}{dst:Option Tmp}:runK' cx call op dst st=runK cx call op dst st (allM st.ev op.operands.toList):=rfl
theorem oper_plain {dst:Option Tmp}{op:Op}{ty:TypeId}{pos:String}{after:Array Edge}:oper cx call ops ⟨dst,op,ty,pos,after,none⟩ st=runK cx call op dst st (allM st.ev op.operands.toList):=by
 simp only [oper,runOper,runK];cases allM st.ev op.operands.toList<;>rfl
theorem oper_guard {dst:Option Tmp}{op:Op}{ty:TypeId}{pos:String}{after:Array Edge}{j:Nat}{want:Bool}:oper cx call ops ⟨dst,op,ty,pos,after,some (j,want)⟩ st=guardK (yieldD ops st j) want (runK' cx call op dst) dst st:=by
 simp only [oper,runOper,guardK,runK',runK];cases yieldD ops st j<;>cases allM st.ev op.operands.toList<;>rfl
theorem thenR_pair {dst:Option Tmp}{p:D × H}:thenR st dst (some p)=some (St.put { st with h:=p.2 } dst p.1):=rfl
end
theorem loop_step {f:St→CR}{st:St}:loopω f st=thenC (f st) (loopω f):=by
 rw [loop_eq]
 cases f st with
 | none=>rfl
 | some x=>obtain ⟨x,st1⟩:=x; cases x<;>rfl
def enterU:Nat→List D→(Nat→D)→(Nat→D)
 | _,[],f=>f
 | i,d::ds,f=>enterU (i+1) ds (upd f i d)
theorem enterU_get:∀ (ds:List D) (i:Nat) (f:Nat→D) (j:Nat),enterU i ds f j=if j<i then f j else match ds[j-i]? with|some d=>d|none=>f j
 | [],i,f,j=>by simp [enterU]
 | d::ds,i,f,j=>by
  rw [enterU,enterU_get ds (i+1) (upd f i d) j];by_cases h:j<i
  · rw [if_pos (by omega),if_pos h,upd_ne _ _ (by omega)]
  · rw [if_neg h]
    by_cases e:j=i
    · subst e
      rw [if_pos (Nat.lt_succ_self _),upd_same,Nat.sub_self];rfl
    · rw [if_neg (by omega)]
      have:j-i=(j-(i+1))+1:=by omega
      rw [this,List.getElem?_cons_succ,upd_ne _ _ e]
theorem enterE_eq (ds:List D):enterE ds=enterU 0 ds fun _=>.undef:=by
 funext j
 rw [enterU_get,if_neg (Nat.not_lt_zero _),Nat.sub_zero];simp only [enterE,List.getD_eq_getElem?_getD];cases ds[j]?<;>rfl
theorem upd_get {α:Type}{f:Nat→α}{i j:Nat}{x:α}:upd f i x j=if j=i then x else f j:=rfl
attribute [simp] enterE_eq upd_get
attribute [simp] code_skip code_region code_seq code_cond code_ret drawC_none drawC_easy drawC_some addH_some thenH_some opListH_nil opListH_cons hardK_some steadyK_some steady_nil steady_cons sameOut_some dbeq_t dbeq_tup0 dbeq_ptr dbeq_row dbeq_eptr T.beq_self Op.levelD thenC_norm thenC_exit thenC_ret blockC_norm blockC_exit blockC_ret regC_some condK_true condK_false
attribute [simp] opList_nil opList_cons thenA_some oper_plain oper_guard thenR_pair runK_some guardK_some runK'_eq yieldD Op.operands Go.Call.operands allM St.ev T.ofVal scalarT stepD Op.kindD pureD readD effD St.put enterU takeO zipIx
theorem wrap_i64 {n:Int}(h1 : -9223372036854775808≤n)(h2:n≤9223372036854775807):IntKind.i64.wrap n=n:=by
 have e:(2:Int) ^ (64:Nat)=18446744073709551616:=by decide
 have e':(2:Int) ^ (64-1:Nat)=9223372036854775808:=by decide
 simp only [IntKind.wrap,IntKind.bits,IntKind.signed,Bool.true_and,decide_eq_true_eq,e,e'];split<;>omega
theorem wrap_u64 {n:Int}(h1:0≤n)(h2:n≤18446744073709551615):IntKind.u64.wrap n=n:=by
 have e:(2:Int) ^ (64:Nat)=18446744073709551616:=by decide
 simp only [IntKind.wrap,IntKind.bits,IntKind.signed,Bool.false_and,e];simp;omega
theorem wrap_u8 {n:Int}(h1:0≤n)(h2:n≤255):IntKind.u8.wrap n=n:=by
 have e:(2:Int) ^ (8:Nat)=256:=by decide
 simp only [IntKind.wrap,IntKind.bits,IntKind.signed,Bool.false_and,e];simp;omega
theorem wrap_i32 {n:Int}(h1 : -2147483648≤n)(h2:n≤2147483647):IntKind.i32.wrap n=n:=by
 have e:(2:Int) ^ (32:Nat)=4294967296:=by decide
 have e':(2:Int) ^ (32-1:Nat)=2147483648:=by decide
 simp only [IntKind.wrap,IntKind.bits,IntKind.signed,Bool.true_and,decide_eq_true_eq,e,e'];split<;>omega
theorem ltI_true {a b:Int}(h:a<b):ltI a b=true:=decide_eq_true h
theorem ltI_false {a b:Int}(h:b≤a):ltI a b=false:=decide_eq_false (by omega)
theorem leI_true {a b:Int}(h:a≤b):leI a b=true:=decide_eq_true h
theorem leI_false {a b:Int}(h:b<a):leI a b=false:=decide_eq_false (by omega)
theorem eqI_true {a b:Int}(h:a=b):eqI a b=true:=decide_eq_true h
theorem eqI_false {a b:Int}(h:a≠b):eqI a b=false:=decide_eq_false h
theorem eqI_self {a:Int}:eqI a a=true:=decide_eq_true rfl
theorem eqS_self {a:ByteArray}:eqS a a=true:=decide_eq_true rfl
attribute [simp] ltI_true ltI_false leI_true leI_false eqI_true eqI_false eqI_self eqS_self
theorem empty_next:H.empty.next=0:=rfl
theorem empty_marks:H.empty.marks=[]:=rfl
theorem push_objs (h:H)(o:AObj):(h.push o).objs=upd h.objs h.next (some o):=rfl
theorem push_next (h:H)(o:AObj):(h.push o).next=h.next+1:=rfl
theorem push_marks (h:H)(o:AObj):(h.push o).marks=h.marks:=rfl
theorem set_objs (h:H)(i:Nat)(o:AObj):(h.set i o).objs=upd h.objs i (some o):=rfl
theorem set_next (h:H)(i:Nat)(o:AObj):(h.set i o).next=h.next:=rfl
theorem set_marks (h:H)(i:Nat)(o:AObj):(h.set i o).marks=h.marks:=rfl
theorem tc_agg (cs:List T):(T.agg cs).cells=cs:=rfl
theorem tc_int (k:IntKind)(n:Int):(T.int k n).cells=[.int k n]:=rfl
theorem tc_str (s:ByteArray):(T.str s).cells=[.str s]:=rfl
theorem tc_nilSlice:T.nilSlice.cells=[.nilSlice]:=rfl
theorem tc_slice (es:List T):(T.slice es).cells=[.slice es]:=rfl
theorem dc_t (x:T):(D.t x).cells=x.cells.map .t:=rfl
theorem dc_ptr (a b c d:Nat):(D.ptr a b c d).cells=[.ptr a b c d]:=rfl
theorem dc_row (a b c d:Nat):(D.row a b c d).cells=[.row a b c d]:=rfl
theorem dc_func (f:Fn)(a b:List D):(D.func f a b).cells=[.func f a b]:=rfl
attribute [simp] tc_agg tc_int tc_str tc_nilSlice tc_slice dc_t dc_ptr dc_row dc_func
attribute [simp] empty_next empty_marks push_objs push_next push_marks set_objs set_next set_marks
attribute [simp] wrap_i64 wrap_u64 wrap_u8 wrap_i32 D.toT TK.form TK.isAgg TK.solid H.els H.may H.mays IntKind.bits setsD
end Vai
namespace Vai
open Go
variable [Gl]
def Wp (r:CR)(Q:X→St→Prop):Prop:=∃ x st,r=some (x,st)∧Q x st
theorem Wp_some {x:X}{st:St}{Q:X→St→Prop}:Wp (some (x,st)) Q↔Q x st:=⟨fun ⟨_,_,h,hq⟩=>by cases h; exact hq,fun h=>⟨x,st,rfl,h⟩⟩
def Ret (r:Option (D × H))(R:D→H→Prop):Prop:=∃ d h,r=some (d,h)∧R d h
theorem Ret_some {d:D}{h:H}{R:D→H→Prop}:Ret (some (d,h)) R↔R d h:=⟨fun ⟨_,_,h,hq⟩=>by cases h; exact hq,fun hr=>⟨d,h,rfl,hr⟩⟩
attribute [simp] Wp_some Ret_some
theorem loop_inv {f:St→CR}(I:Nat→St→Prop)(Q:X→St→Prop)(hstep:∀ n st,I n st→Wp (f st) fun x st'=>(x = .norm∧∃ n',n'<n∧I n' st')∨(x ≠ .norm∧Q x st')) :
  ∀ (n:Nat) (st:St),I n st→∃ x st',loopω f st=some (x,st')∧Q x st':=by
 intro n
 induction n using Nat.strongRecOn with
 | _ n ih =>
  intro st h;obtain ⟨x,st',h2,h3⟩:=hstep n st h;rcases h3 with ⟨rfl,n',h4,h5⟩|⟨h1,h3⟩
  · obtain ⟨x,st2,h6,h7⟩:=ih n' h4 st' h5
    exact ⟨x,st2,by rw [loop_step,h2]; exact h6,h7⟩
  · refine ⟨x,st',?_,h3⟩
    rw [loop_step,h2];cases x<;>first|rfl|exact absurd rfl h1
theorem endC_norm {P:Program}{rs:List ResultVar}{st:St}:endC P rs (some (.norm,st))=(resultsD P st rs).map fun d=>(d,st.h):=rfl
theorem endC_ret {P:Program}{rs:List ResultVar}{st:St}:endC P rs (some (.ret,st))=(resultsD P st rs).map fun d=>(d,st.h):=rfl
theorem endC_pan {P:Program}{rs:List ResultVar}{st:St}{x:T}:endC P rs (some (.pan x,st))=some (.pan x,st.h):=rfl
attribute [simp] endC_pan
attribute [simp] endC_norm endC_ret resultsD resultD
end Vai

namespace Vai
open Go
variable [Gl]
def TBuf (h:H)(e:TypeId)(s:Nat)(d:D)(xs:List T):Prop:=(d = .t .nilSlice∧xs=[])∨∃ id,d = .row id 0 xs.length xs.length∧h.objs id=some (.row e s (xs.map .t))∧id<h.next
def Stays (h h':H)(d:D):Prop:=h'.marks=h.marks∧h.next≤h'.next∧∀ id o,h.objs id=some o→(∀ i l t,d ≠ .row id i l t)→h'.objs id=some o
theorem Stays.refl (h:H)(d:D):Stays h h d:=⟨rfl,Nat.le_refl _,fun _ _ h _=>h⟩
section
variable {P:Program}
theorem mays_trees (h:H)(id:Nat)(xs:List T):h.mays id (xs.map .t)=true:=by
 simp only [H.mays,List.all_eq_true,List.mem_map,H.may];rintro _ ⟨x,_,rfl⟩ mk _;simp [D.refsB]
theorem TBuf.nil {h:H}{e:TypeId}{s:Nat}:TBuf h e s (.t .nilSlice) []:=.inl ⟨rfl,rfl⟩
theorem TBuf.append {h:H}{t e:TypeId}{s b:Nat}{a x:D}{z:T}{xs ys:List T}(hb:TBuf h e s a xs)(hk:tk P t = .slice e)(hs:sz P e=some s)(hby:byt P e=some b)(hz:zeroT P e=some z)(hzs:z.cells.length=s)(h0:0<s)
   (hsrc:sourceD h x=some (ys.map .t)) (hys:ys.all (fun y=>y.cells.length == s)=true) (hsize:(xs.length+ys.length)*b≤140737488355328) (hlen:xs.length+ys.length<140737488355328) (hlt:∀ id o,h.objs id=some o→id<h.next) :
   ∃ a' h',appendD P h t a x=some (a',h')∧TBuf h' e s a' (xs++ys)∧Stays h h' a∧(∀ id o,h'.objs id=some o→id<h'.next):=by
 have hys':(ys.map D.t).all (fun d=>d.cells.length == s)=true:=by
   simp only [List.all_eq_true,List.mem_map] at hys ⊢;rintro _ ⟨y,hy,rfl⟩;have:=hys y hy;simpa [D.cells] using this
 unfold appendD;simp only [hk,hs,hby,hz,hsrc,hzs,h0,hys',and_self,if_true,List.length_map];rcases hb with ⟨rfl,rfl⟩|⟨id,rfl,hob,hid⟩
 · simp only [List.length_nil,Nat.zero_add] at hsize hlen
   simp only [hsize,hlen,and_self,if_true,List.nil_append];by_cases h1:ys.length=0
   · obtain rfl:=List.eq_nil_of_length_eq_zero h1
     exact ⟨.t .nilSlice,h,by simp,.nil,Stays.refl _ _,hlt⟩
   · rw [if_neg h1]
     refine ⟨_,_,rfl,.inr ⟨h.next,rfl,by simp [H.push,upd],by simp [H.push]⟩,⟨rfl,by simp [H.push],fun id o ho _=>?_⟩,fun id o ho=>?_⟩
     · have:=hlt id o ho
       simp only [H.push];rw [upd_ne _ _ (by omega)]
       exact ho
     · simp only [H.push] at ho ⊢
       by_cases e:id=h.next
       · omega
       · rw [upd_ne _ _ e] at ho
         have:=hlt id o ho;omega
 · simp only [H.els,hob,List.length_map,if_true,hsize,hlen,Nat.le_refl,mays_trees,and_self]
   refine ⟨_,_,rfl,.inr ⟨id,by simp,by simp [H.set,upd],by simpa [H.set] using hid⟩,⟨rfl,Nat.le_refl _,fun id' o ho hne=>?_⟩,fun id' o ho=>?_⟩
   · have:id'≠id:=fun e=>hne 0 _ _ (by rw [e])
     simp only [H.set];rw [upd_ne _ _ this];exact ho
   · simp only [H.set] at ho ⊢
     by_cases e:id'=id
     · omega
     · rw [upd_ne _ _ e] at ho
       exact hlt id' o ho
end
end Vai
namespace Vai
open Go
variable [Gl]
def Slice (x:T)(es:List T):Prop:=(x = .nilSlice∧es=[])∨x = .slice es
theorem Slice.mk {es:List T}:Slice (.slice es) es:=.inr rfl
theorem Slice.nil:Slice .nilSlice []:=.inl ⟨rfl,rfl⟩
theorem Slice.len {x:T}{es:List T}(h:Slice x es){P:Program}{t e:TypeId}(hk:tk P t = .slice e)(hp:H):lenD P hp t (.t x)=some (.t (.int .i64 es.length)):=by
 rcases h with ⟨rfl,rfl⟩|rfl<;>simp [lenD,hk]
theorem Slice.eq_of_ne {x:T}{es:List T}(h:Slice x es)(hne:es≠[]):x = .slice es:=by
 rcases h with ⟨_,rfl⟩|h
 · exact absurd rfl hne
 · exact h
theorem allM_map_t (h:H)(n:Nat)(xs:List T):allM (snapF h (n+1)) (xs.map .t)=some xs:=by
 induction xs with
 | nil=>rfl
 | cons x xs ih =>
  have hx:snapF h (n+1) (.t x)=some x:=rfl;simp only [List.map_cons,allM,ih,hx]
theorem snap_t (h:H)(x:T):snap h (.t x)=some x:=rfl
theorem allM_snap_t (h:H)(xs:List T):allM (snap h) (xs.map .t)=some xs:=allM_map_t h 4 xs
theorem TBuf.snap {h:H}{e:TypeId}{s:Nat}{d:D}{xs:List T}(hb:TBuf h e s d xs):∃ x,Vai.snap h d=some x∧Slice x xs:=by
 rcases hb with ⟨rfl,rfl⟩|⟨id,rfl,ho,_⟩
 · exact ⟨_,rfl,.nil⟩
 · refine ⟨.slice xs,?_,.mk⟩
   have h1:snapF h 5 (.row id 0 xs.length xs.length)=match h.els id xs.length with
    | some (_,_,es)=>if 0+xs.length≤es.length then (allM (snapF h 4) ((es.drop 0).take xs.length)).map .slice else none
    | none=>none:=rfl
   have h2:h.els id xs.length=some (e,s,xs.map .t):=by simp [H.els,ho]
   have h3:((xs.map D.t).drop 0).take xs.length=xs.map .t:=by rw [List.drop_zero,List.take_of_length_le (by simp)]
   unfold Vai.snap;rw [h1,h2];simp only [List.length_map,Nat.zero_add,Nat.le_refl,if_true,h3,allM_map_t];rfl
theorem TBuf.snapOut {h:H}{e:TypeId}{s:Nat}{d:D}{xs:List T}(hb:TBuf h e s d xs):∃ x,Vai.snapOut h d=some (.t x)∧Slice x xs:=by
 obtain ⟨x,h1,h2⟩:=hb.snap;refine ⟨x,?_,h2⟩;rcases hb with ⟨rfl,rfl⟩|⟨id,rfl,ho,_⟩
 · simp only [Vai.snapOut]; rw [h1]; rfl
 · simp only [Vai.snapOut]; rw [h1]; rfl
section
variable {cx:Cc}{call:ACall}{k:FuncId}{args:List D}{h:H}{ts:List T}
end
end Vai
namespace Vai
open Go
variable [Gl]
theorem noObj:∀ (id:Nat) (o:AObj),H.empty.objs id=some o→id<H.empty.next:=fun _ _ h=>by cases h
end Vai
namespace Vai
open Go
variable [Gl]
def OBuf (h:H)(e:TypeId)(s:Nat)(d:D)(xs:List T):Prop:=(d = .t .nilSlice∧xs=[])∨∃ id top es,d = .row id 0 xs.length top∧h.objs id=some (.row e s es)∧es.length=top∧xs.length≤top∧es.take xs.length=xs.map .t
end Vai

namespace Vai
open Go
variable [Gl]
def findLoop (id:Nat):Code→Option Code
 | .seq a b=>match findLoop id a with
  | some c=>some c
  | none=>findLoop id b
 | .cond _ a b=>match findLoop id a with
  | some c=>some c
  | none=>findLoop id b
 | .block i c=>match c with
  | .loop b=>if i=id then some b else findLoop id b
  | c=>findLoop id c
 | .loop c=>findLoop id c
 | _=>none
def loopIds:Code→List Nat
 | .seq a b=>loopIds a++loopIds b
 | .cond _ a b=>loopIds a++loopIds b
 | .block i c=>match c with
  | .loop b=>i::loopIds b
  | c=>loopIds c
 | .loop c=>loopIds c
 | _=>[]
def codeB (cx:Cc)(call:ACall)(it:Iter)(L:Nat→St→CR):Code→St→CR
 | .skip,st=>some (.norm,st)
 | .label _,st=>some (.norm,st)
 | .region id ops draw,st=>drawC cx call ops st (if draw then some (cx.hard id) else none)
 | .seq a b,st=>thenC (codeB cx call it L a st) (codeB cx call it L b)
 | .cond c x y,st=>condC (st.ev c) (codeB cx call it L x st) (codeB cx call it L y st)
 | .block id c,st=>match c with
  | .loop _=>blockC id (it (L id) st)
  | c=>blockC id (codeB cx call it L c st)
 | .loop c,st=>it (codeB cx call it L c) st
 | .exit id,st=>some (.exit id,st)
 | .ret,st=>some (.ret,st)
 | _,_=>none
theorem findLoop_none:∀ (c:Code) (id:Nat),id∉loopIds c→findLoop id c=none:=by
 intro c id
 fun_induction loopIds c with
 | case1 a b iha ihb =>
  intro h;simp only [List.mem_append,not_or] at h;simp only [findLoop,iha h.1,ihb h.2]
 | case2 _ a b iha ihb =>
  intro h;simp only [List.mem_append,not_or] at h;simp only [findLoop,iha h.1,ihb h.2]
 | case3 i b ih =>
  intro h;simp only [List.mem_cons,not_or] at h;simp only [findLoop];rw [if_neg (fun e=>h.1 e.symm),ih h.2]
 | case4 i c hc ih =>
  intro h;unfold findLoop;split
  · rename_i b; exact absurd rfl (hc b)
  · exact ih h
 | case5 c ih=>intro h; simpa only [findLoop] using ih h
 | case6 c h1 h2 h3 h4 =>
  intro _
  cases c with
  | seq a b=>exact absurd rfl (h1 a b)
  | cond x a b=>exact absurd rfl (h2 x a b)
  | block i b=>exact absurd rfl (h3 i b)
  | loop b=>exact absurd rfl (h4 b)
  | _=>rfl
def Knows (cx:Cc)(call:ACall)(it:Iter)(L:Nat→St→CR)(c:Code):Prop:=∀ id b,findLoop id c=some b→∀ st,L id st=code cx call it b st
theorem codeB_eq {cx:Cc}{call:ACall}{it:Iter}{L:Nat→St→CR}(hit:∀ f g:St→CR,(∀ st,f st=g st)→∀ st,it f st=it g st):∀ (c:Code),(loopIds c).Nodup→Knows cx call it L c→∀ st,codeB cx call it L c st=code cx call it c st:=by
 intro c
 induction c with
 | seq a b iha ihb =>
  intro hn hk st;simp only [loopIds,List.nodup_append] at hn;have ha:Knows cx call it L a:=fun id x hx=>hk id x (by simp only [findLoop,hx])
  have hb:Knows cx call it L b:=fun id x hx=>hk id x (by
    have hna:findLoop id a=none:=by
     refine findLoop_none a id fun h1=>?_
     have h2:id∈loopIds b:=Classical.byContradiction fun h3=>by rw [findLoop_none b id h3] at hx; cases hx
     exact hn.2.2 id h1 id h2 rfl
    simp only [findLoop,hna,hx])
  simp only [codeB,code,iha hn.1 ha];congr 1
  funext s
  exact ihb hn.2.1 hb s
 | cond x a b iha ihb =>
  intro hn hk st;simp only [loopIds,List.nodup_append] at hn;have ha:Knows cx call it L a:=fun id x hx=>hk id x (by simp only [findLoop,hx])
  have hb:Knows cx call it L b:=fun id x hx=>hk id x (by
    have hna:findLoop id a=none:=by
     refine findLoop_none a id fun h1=>?_
     have h2:id∈loopIds b:=Classical.byContradiction fun h3=>by rw [findLoop_none b id h3] at hx; cases hx
     exact hn.2.2 id h1 id h2 rfl
    simp only [findLoop,hna,hx])
  simp only [codeB,code,iha hn.1 ha,ihb hn.2.1 hb]
 | block i c ih =>
  intro hn hk st;by_cases hl:∃ b,c = .loop b
  · obtain ⟨b,rfl⟩:=hl
    simp only [codeB,code];rw [hit (L i) (code cx call it b) (hk i b (by simp only [findLoop,if_true]))]
  · have h1:codeB cx call it L (.block i c) st=blockC i (codeB cx call it L c st):=by
     cases c<;>first|rfl|exact absurd ⟨_,rfl⟩ hl
    have h2:loopIds (.block i c)=loopIds c:=by
     cases c<;>first|rfl|exact absurd ⟨_,rfl⟩ hl
    have h3:∀ id,findLoop id (.block i c)=findLoop id c:=fun id=>by
     cases c<;>first|rfl|exact absurd ⟨_,rfl⟩ hl
    rw [h1];simp only [code];rw [ih (h2 ▸ hn) (fun id x hx=>hk id x (by rw [h3]; exact hx))]
 | loop c ih =>
  intro hn hk st;simp only [codeB,code];exact hit _ _ (fun st=>ih (by simpa only [loopIds] using hn) (fun id x hx=>hk id x (by simpa only [findLoop] using hx)) st) st
 | _=>intro _ _ st; rfl
theorem loopω_congr {f g:St→CR}(h:∀ st,f st=g st)(st:St):loopω f st=loopω g st:=by
 have:f=g:=funext h;rw [this]
noncomputable def LB (cx:Cx)(prim:FuncId→Option ACall)(k:FuncId)(fn:Func)(id:Nat):St→CR:=code (cx.at k) (call cx prim) loopω ((findLoop id (bodyOf fn)).getD .skip)
theorem LB_knows {cx:Cx}{prim:FuncId→Option ACall}{k:FuncId}{fn:Func}:Knows (cx.at k) (call cx prim) loopω (LB cx prim k fn) (bodyOf fn):=fun id b hb st=>by
 simp only [LB,hb,Option.getD_some]
theorem findLoop_in:∀ (c:Code) (id:Nat) (b:Code),(loopIds c).Nodup→findLoop id c=some b→(loopIds b).Nodup∧(∀ i∈loopIds b,i∈loopIds c)∧∀ i x,findLoop i b=some x→findLoop i c=some x:=by
 intro c id;have mem:∀ {c:Code} {i:Nat} {x:Code},findLoop i c=some x→i∈loopIds c:=fun {c i x} h=>Classical.byContradiction fun h3=>by rw [findLoop_none c i h3] at h; cases h
 induction c with
 | seq a b iha ihb =>
  intro x hn hx;simp only [loopIds,List.nodup_append] at hn;simp only [findLoop] at hx
  cases ha:findLoop id a with
  | some y =>
    rw [ha] at hx;cases hx;obtain ⟨h1,h2,h3⟩:=iha _ hn.1 ha;exact ⟨h1,fun i hi=>List.mem_append_left _ (h2 i hi),fun i z hz=>by simp only [findLoop,h3 i z hz]⟩
  | none =>
    rw [ha] at hx;obtain ⟨h1,h2,h3⟩:=ihb _ hn.2.1 hx;refine ⟨h1,fun i hi=>List.mem_append_right _ (h2 i hi),fun i z hz=>?_⟩
    have h4:=h3 i z hz;have hna:findLoop i a=none:=findLoop_none a i fun h5=>hn.2.2 i h5 i (mem h4) rfl
    simp only [findLoop,hna,h4]
 | cond _ a b iha ihb =>
  intro x hn hx;simp only [loopIds,List.nodup_append] at hn;simp only [findLoop] at hx
  cases ha:findLoop id a with
  | some y =>
    rw [ha] at hx;cases hx;obtain ⟨h1,h2,h3⟩:=iha _ hn.1 ha;exact ⟨h1,fun i hi=>List.mem_append_left _ (h2 i hi),fun i z hz=>by simp only [findLoop,h3 i z hz]⟩
  | none =>
    rw [ha] at hx;obtain ⟨h1,h2,h3⟩:=ihb _ hn.2.1 hx;refine ⟨h1,fun i hi=>List.mem_append_right _ (h2 i hi),fun i z hz=>?_⟩
    have h4:=h3 i z hz;have hna:findLoop i a=none:=findLoop_none a i fun h5=>hn.2.2 i h5 i (mem h4) rfl
    simp only [findLoop,hna,h4]
 | block j c ih =>
  intro x hn hx;by_cases hl:∃ b,c = .loop b
  · obtain ⟨b,rfl⟩:=hl
    simp only [loopIds,List.nodup_cons] at hn;simp only [findLoop] at hx;split at hx
    · rename_i e
      cases hx;refine ⟨hn.2,fun i hi=>List.mem_cons_of_mem _ hi,fun i z hz=>?_⟩
      have:j≠i:=fun e=>hn.1 (e ▸ mem hz)
      simp only [findLoop,if_neg this,hz]
    · have h0:findLoop id (.loop b)=some x:=by simpa only [findLoop] using hx
      obtain ⟨h1,h2,h3⟩:=ih _ (by simpa only [loopIds] using hn.2) h0
      refine ⟨h1,fun i hi=>List.mem_cons_of_mem _ (by simpa only [loopIds] using h2 i hi),fun i z hz=>?_⟩
      have h4:=h3 i z hz;simp only [findLoop] at h4;have:j≠i:=fun e=>hn.1 (e ▸ mem h4)
      simp only [findLoop,if_neg this,h4]
  · have h2:loopIds (.block j c)=loopIds c:=by
      cases c<;>first|rfl|exact absurd ⟨_,rfl⟩ hl
    have h3:∀ id,findLoop id (.block j c)=findLoop id c:=fun id=>by
      cases c<;>first|rfl|exact absurd ⟨_,rfl⟩ hl
    obtain ⟨q1,q2,q3⟩:=ih x (h2 ▸ hn) (by rw [←h3]; exact hx)
    exact ⟨q1,fun i hi=>h2 ▸ q2 i hi,fun i z hz=>by rw [h3]; exact q3 i z hz⟩
 | loop c ih =>
  intro x hn hx;obtain ⟨h1,h2,h3⟩:=ih x (by simpa only [loopIds] using hn) (by simpa only [findLoop] using hx)
  exact ⟨h1,fun i hi=>by simpa only [loopIds] using h2 i hi,fun i z hz=>by simpa only [findLoop] using h3 i z hz⟩
 | _=>intro x _ hx; simp [findLoop] at hx
section
variable {cx:Cx}{prim:FuncId→Option ACall}{k:FuncId}{fn:Func}
theorem LB_run {id:Nat}{b:Code}(hnd:(loopIds (bodyOf fn)).Nodup)(hb:findLoop id (bodyOf fn)=some b)(st:St):LB cx prim k fn id st=codeB (cx.at k) (call cx prim) loopω (LB cx prim k fn) b st:=by
 obtain ⟨h1,h2,h3⟩:=findLoop_in _ _ _ hnd hb;rw [codeB_eq (fun f g h st=>loopω_congr h st) b h1 (fun i x hx st=>LB_knows i x (h3 i x hx) st)]
 exact LB_knows id b hb st
theorem call_run {args:List D}{h:H}{n:Nat}{rs:Array ResultVar}{c:Code}(hp:prim k=none)(hf:cx.P.funcs[k]?=some fn)(hok:okFunc (cx.at k) fn=true)(hnd:(loopIds (bodyOf fn)).Nodup)
  (hn:fn.ntmps=n) (hle:args.length≤n) (hr:fn.results=rs) (hb:fn.body=some c):call cx prim k args h=endC cx.P rs.toList (codeB (cx.at k) (call cx prim) loopω (LB cx prim k fn) c ⟨n,enterU 0 args fun _=>.undef,h⟩):=by
 subst hn hr;rw [call_func hp];unfold func;rw [hf];simp only [hok,hle,and_self,if_true];have:bodyOf fn=c:=by simp [bodyOf,hb]
 rw [this,enterE_eq,codeB_eq (fun f g h st=>loopω_congr h st) c (this ▸ hnd) (this ▸ LB_knows)]
end
section
variable {cx:Cc}{call:ACall}{it:Iter}{L:Nat→St→CR}{ops:Array Oper}{st:St}{c a b:Code}
theorem codeB_skip:codeB cx call it L .skip st=some (.norm,st):=rfl
theorem codeB_region {id:Nat}{d:Bool}:codeB cx call it L (.region id ops d) st=drawC cx call ops st (if d then some (cx.hard id) else none):=rfl
theorem codeB_seq:codeB cx call it L (.seq a b) st=thenC (codeB cx call it L a st) (codeB cx call it L b):=rfl
theorem codeB_cond {x:Operand}:codeB cx call it L (.cond x a b) st=condK (st.ev x) (codeB cx call it L a) (codeB cx call it L b) st:=rfl
theorem codeB_block_loop {id:Nat}:codeB cx call it L (.block id (.loop c)) st=blockC id (it (L id) st):=rfl
theorem codeB_block_seq {id:Nat}:codeB cx call it L (.block id (.seq a b)) st=blockC id (codeB cx call it L (.seq a b) st):=rfl
theorem codeB_block_region {id i:Nat}{d:Bool}:codeB cx call it L (.block id (.region i ops d)) st=blockC id (codeB cx call it L (.region i ops d) st):=rfl
theorem codeB_exit {id:Nat}:codeB cx call it L (.exit id) st=some (.exit id,st):=rfl
theorem codeB_ret:codeB cx call it L .ret st=some (.ret,st):=rfl
end
attribute [simp] codeB_skip codeB_region codeB_seq codeB_cond codeB_block_loop codeB_block_seq codeB_block_region codeB_exit codeB_ret
end Vai

namespace Vai
open Go
variable [Gl]
def nrow (bt:TypeId)(s:Nat)(xs:List T)(h:H):D × H:=if xs=[] then (.t .nilSlice,h) else (.row h.next 0 xs.length xs.length,h.push (.row bt s (xs.map .t)))
def sl (xs:List T):T:=if xs=[] then .nilSlice else .slice xs
theorem nrow_nil {bt:TypeId}{s:Nat}{h:H}:nrow bt s [] h=(.t .nilSlice,h):=rfl
theorem nrow_cons {bt:TypeId}{s:Nat}{xs:List T}{h:H}(hx:xs≠[]):nrow bt s xs h=(.row h.next 0 xs.length xs.length,h.push (.row bt s (xs.map .t))):=if_neg hx
theorem sl_cons {xs:List T}(hx:xs≠[]):sl xs = .slice xs:=if_neg hx
theorem sl_slice (xs:List T):Slice (sl xs) xs:=by
 unfold sl;split
 · rename_i h; subst h; exact .nil
 · exact .mk
section
variable {P:Program}
theorem els_push {h:H}{bt:TypeId}{s:Nat}{es:List D}:(h.push (.row bt s es)).els h.next es.length=some (bt,s,es):=by simp [H.els,H.push,upd]
theorem els_push' {h:H}{bt:TypeId}{s n:Nat}{es:List D}(hn:n=es.length):(h.push (.row bt s es)).els h.next n=some (bt,s,es):=by subst hn; exact els_push
theorem push_set {h:H}{o o':AObj}:(h.push o).set h.next o'=h.push o':=by
 simp only [H.push,H.set,H.mk.injEq,and_true]
 funext k
 simp only [upd];split<;>rfl
theorem append_new {h:H}{t e:TypeId}{s b:Nat}{x:D}{z:T}{xs ys:List T}(hk:tk P t = .slice e)(hs:sz P e=some s)(hby:byt P e=some b)(hz:zeroT P e=some z)(hzs:z.cells.length=s)(h0:0<s)
   (hsrc:sourceD (nrow e s xs h).2 x=some (ys.map .t)) (hys:ys.all (fun y=>y.cells.length == s)=true) (hsize:(xs.length+ys.length)*b≤140737488355328) (hlen:xs.length+ys.length<140737488355328) :
   appendD P (nrow e s xs h).2 t (nrow e s xs h).1 x=some (nrow e s (xs++ys) h):=by
 have hys':(ys.map D.t).all (fun d=>d.cells.length == s)=true:=by
   simp only [List.all_eq_true,List.mem_map] at hys ⊢;rintro _ ⟨y,hy,rfl⟩;have:=hys y hy;simpa [D.cells] using this
 unfold appendD;simp only [hk,hs,hby,hz,hsrc,hzs,h0,hys',and_self,if_true,List.length_map];by_cases hx:xs=[]
 · subst hx
   simp only [nrow_nil,List.nil_append];simp only [List.length_nil,Nat.zero_add] at hsize hlen;simp only [hsize,hlen,and_self,if_true];by_cases hy:ys=[]
   · subst hy; rfl
   · have:¬ ys.length=0:=fun e=>hy (List.eq_nil_of_length_eq_zero e)
     rw [if_neg this,nrow_cons hy]
 · rw [nrow_cons hx]
   simp only;rw [els_push' (by simp)]
   have hm:∀ id,(h.push (.row e s (xs.map .t))).mays id (ys.map .t)=true:=fun id=>mays_trees _ _ _
   simp only [List.length_map,hm,hsize,hlen,Nat.le_refl,and_self,if_true];have hne:xs++ys≠[]:=by simp [hx]
   rw [nrow_cons hne,push_set];simp
end
theorem snap_new {h:H}{bt:TypeId}{s:Nat}{xs:List T}:snap (nrow bt s xs h).2 (nrow bt s xs h).1=some (sl xs):=by
 by_cases hx:xs=[]
 · subst hx; rfl
 · rw [nrow_cons hx,sl_cons hx]
   have h1:∀ g:H,snap g (.row h.next 0 xs.length xs.length)=match g.els h.next xs.length with
    | some (_,_,es)=>if 0+xs.length≤es.length then (allM (snapF g 4) ((es.drop 0).take xs.length)).map .slice else none
    | none=>none:=fun _=>rfl
   have h3:((xs.map D.t).drop 0).take xs.length=xs.map .t:=by rw [List.drop_zero,List.take_of_length_le (by simp)]
   rw [h1,els_push' (by simp)]
   simp only [List.length_map,Nat.zero_add,Nat.le_refl,if_true,h3,allM_map_t];rfl
theorem snapOut_new {h:H}{bt:TypeId}{s:Nat}{xs:List T}:snapOut (nrow bt s xs h).2 (nrow bt s xs h).1=some (.t (sl xs)):=by
 have:=snap_new (h:=h) (bt:=bt) (s:=s) (xs:=xs);by_cases hx:xs=[]
 · subst hx; rfl
 · rw [nrow_cons hx] at this ⊢
   simp only [snapOut];rw [this];rfl
section
variable {cc:Cc}{call:ACall}{k:FuncId}{args:List D}{h:H}{ts:List T}
theorem toT_isT:∀ {args:List D} {ts:List T},allM D.toT args=some ts→args=ts.map .t
 | [],ts,h=>by simp [allM] at h; subst h; rfl
 | a::rest,ts,h=>by
  simp only [allM] at h;split at h
  · cases h
  · rename_i y hy
    split at h
    · cases h
    · rename_i ys hys
      cases h;rw [toT_isT hys,toT_some hy];rfl
theorem isT_map (ts:List T):(ts.map D.t).all D.isT=true:=by simp [D.isT]
theorem pureT {d d':D}{h':H}(hcb:callable cc.P k=true)(hm:cc.md k = .pure)(hc:call k args .empty=some (d,h'))(hs:snapOut h' d=some d')(ha:allM D.toT args=some ts):callD cc call k args h=some (d',h):=by
 obtain rfl:=toT_isT ha;simp only [callD,hcb,if_true,hm,callPure,allM_snap_t,hc,hs,isT_map,Bool.true_or]
theorem pureNew {bt:TypeId}{s:Nat}{xs:List T}(hcb:callable cc.P k=true)(hm:cc.md k = .pure){h0:H}(hc:call k args .empty=some (nrow bt s xs h0))(ha:allM D.toT args=some ts):callD cc call k args h=some (.t (sl xs),h) :=
 pureT hcb hm hc snapOut_new ha
theorem pureOut_flat {d:D}{x:T}{h':H}(hcb:callable cc.P k=true)(hm:cc.md k = .pure)(hs:allM (snap h) args=some ts)(hc:call k (ts.map .t) .empty=some (d,h'))(hx:snapOut h' d=some (.t x))(hf:x.flat=true):callD cc call k args h=some (.t x,h):=by
 simp only [callD,hcb,if_true,hm,callPure,hs,hc,hx,D.flat,hf,Bool.or_true]
end
section
variable {P:Program}
theorem append_nil {h:H}{t e:TypeId}{s b:Nat}{x:D}{z:T}{ys:List T}(hk:tk P t = .slice e)(hs:sz P e=some s)(hby:byt P e=some b)(hz:zeroT P e=some z)(hzs:z.cells.length=s)(h0:0<s)
  (hsrc:sourceD h x=some (ys.map .t)) (hys:ys.all (fun y=>y.cells.length == s)=true) (hsize:ys.length*b≤140737488355328) (hlen:ys.length<140737488355328) :
  appendD P h t (.t .nilSlice) x=some (nrow e s ys h):=by
 have:=append_new (P:=P) (h:=h) (t:=t) (e:=e) (s:=s) (b:=b) (x:=x) (z:=z) (xs:=[]) (ys:=ys) hk hs hby hz hzs h0 hsrc hys (by simpa using hsize) (by simpa using hlen)
 simpa [nrow_nil] using this
def brow (bt:TypeId)(s:Nat)(xs:List T)(h:H):D × H:=(.row h.next 0 xs.length xs.length,h.push (.row bt s (xs.map .t)))
end
end Vai
namespace Vai
open Go
variable [Gl]
section
variable {cc:Cc}{call:ACall}{k:FuncId}{args:List D}{h:H}{ts:List T}
end
end Vai

namespace Vai
open Go
variable [Gl]
theorem loop_up {f:St→CR}{st:St}(n:Nat)(I:Nat→St→Prop)(Q:X→St→Prop)(h0:I 0 st)
   (hstep:∀ k st,k≤n→I k st→Wp (f st) fun x st'=>(x = .norm∧k<n∧I (k+1) st')∨(x ≠ .norm∧Q x st')):∃ x st',loopω f st=some (x,st')∧Q x st':=by
 refine loop_inv (fun j st=>∃ k,k+j=n∧I k st) Q (fun j st hI=>?_) n st ⟨0,by omega,h0⟩
 obtain ⟨k,hk,hI⟩:=hI;obtain ⟨x,st',h1,h2⟩:=hstep k st (by omega) hI
 refine ⟨x,st',h1,?_⟩;rcases h2 with ⟨rfl,h3,h4⟩|h2
 · exact .inl ⟨rfl,j-1,by omega,k+1,by omega,h4⟩
 · exact .inr h2
end Vai
namespace Vai
open Go
variable [Gl]
theorem loop_uses {f:St→CR}{st:St}{r:CR}(hL:loopω f st=r)(n:Nat)(I:Nat→St→Prop)(Q:X→St→Prop)(h0:I 0 st)
  (hstep:∀ k st,k≤n→I k st→Wp (f st) fun x st'=>(x = .norm∧k<n∧I (k+1) st')∨(x ≠ .norm∧Q x st')):∃ x st',r=some (x,st')∧Q x st' :=
 hL ▸ loop_up n I Q h0 hstep
end Vai
namespace Vai
open Go
variable [Gl]
end Vai

namespace Vai
open Go
variable [Gl]
def ub (l:List UInt8):List T:=l.map fun b=>.int .u8 b.toNat
def u8 (x:Int):UInt8:=UInt8.ofNat (x%256).toNat
theorem wrap_u8_eq (x:Int):IntKind.u8.wrap x=x%256:=by
 have e:(2:Int) ^ (8:Nat)=256:=by decide
 simp only [IntKind.wrap,IntKind.bits,IntKind.signed,Bool.false_and,e];simp
theorem u8_toNat (x:Int):((u8 x).toNat:Int)=x%256:=by
 unfold u8;have h:(x%256).toNat<256:=by omega
 rw [UInt8.toNat_ofNat_of_lt' h];omega
theorem ub_append (a b:List UInt8):ub (a++b)=ub a++ub b:=by simp [ub]
theorem ub_len (l:List UInt8):(ub l).length=l.length:=by simp [ub]
theorem ub_cells (l:List UInt8):(ub l).all (fun y=>y.cells.length == 1)=true:=by simp [ub,T.cells]
theorem ub_get (l:List UInt8)(i:Nat):(ub l)[i]? = l[i]?.map fun b=>.int .u8 b.toNat:=by simp [ub]
theorem ub_bytes (s:ByteArray):bytesT s=ub s.data.toList:=rfl
theorem byteOf_ub (l:List UInt8):allM byteOfT (ub l)=some l:=by
 induction l with
 | nil=>rfl
 | cons b l ih =>
  simp only [ub,List.map_cons,allM,byteOfT] at ih ⊢;rw [ih];simp
theorem ba_eq {a b:List UInt8}:(⟨a.toArray⟩:ByteArray)=⟨b.toArray⟩↔a=b:=by
 constructor
 · intro h; simpa using congrArg (fun x:ByteArray=>x.data.toList) h
 · rintro rfl; rfl
section
variable {P:Program}
theorem conv_bytes {h:H}{s t e:TypeId}{x:T}{l:List UInt8}(hs:tk P s = .slice e)(ht:tk P t = .str)(he:tk P e = .int .u8)(hx:Slice x (ub l)):convD P h s t (.t x)=some (.t (.str ⟨l.toArray⟩)):=by
 rcases hx with ⟨rfl,hl⟩|rfl
 · have:l=[]:=by simpa [ub] using hl
   subst this;simp [convD,hs,ht,he,snap,snapF,D.toT]
 · simp [convD,hs,ht,he,snap,snapF,D.toT,byteOf_ub]
end
end Vai
namespace Vai
open Go
variable [Gl]
def val (l:List UInt8):Nat:=l.foldl (fun n c=>n*256+c.toNat) 0
end Vai

namespace Vai
open Go
variable [Gl]
section
variable {P:Program}{h:H}{t:TypeId}
theorem len_nil:lenD P h t (.t .nilSlice)=match tk P t with|.slice _=>some (.t (.int .i64 0))|_=>none:=rfl
theorem len_slice {es:List T}:lenD P h t (.t (.slice es))=match tk P t with|.slice _=>some (.t (.int .i64 es.length))|_=>none:=rfl
theorem len_str {s:ByteArray}:lenD P h t (.t (.str s))=match tk P t with|.str=>some (.t (.int .i64 s.size))|_=>none:=rfl
theorem len_row {id i len top:Nat}:lenD P h t (.row id i len top)=match tk P t with|.slice _=>(h.els id top).map fun _=>.t (.int .i64 len)|_=>none:=by
 cases hk:tk P t<;>cases he:h.els id top<;>simp [-H.els,lenD,hk,he]
theorem bin_int {op:BinOp}{k k':IntKind}{x y:Int}:binD P h op t (.t (.int k x)) (.t (.int k' y))=(binInt op k x k' y).map .t:=rfl
theorem bin_str {op:BinOp}{x y:ByteArray}:binD P h op t (.t (.str x)) (.t (.str y))=(binStr op x y).map .t:=rfl
theorem bin_bool_eql {a b:Bool}:binD P h .eql t (.t (.bool a)) (.t (.bool b))=match tk P t with|.bool=>some (.t (.bool (a == b)))|_=>none:=by
 simp only [binD,eqD];cases tk P t<;>rfl
theorem bin_bool_neq {a b:Bool}:binD P h .neq t (.t (.bool a)) (.t (.bool b))=match tk P t with|.bool=>some (.t (.bool (!(a == b))))|_=>none:=by
 simp only [binD,eqD];cases tk P t<;>rfl
theorem bin_eql_func {f:Fn}{a b:List D}{y:D}:binD P h .eql t (.func f a b) y=(eqD P h t (.func f a b) y).map fun r=>.t (.bool r):=rfl
theorem bin_neq_iface {u:TypeId}{d:D}{y:D}:binD P h .neq t (.iface u d) y=(eqD P h t (.iface u d) y).map fun r=>.t (.bool !r):=rfl
theorem bin_eql_tnilF {y:D}:binD P h .eql t (.t .nilFunc) y=(eqD P h t (.t .nilFunc) y).map fun r=>.t (.bool r):=rfl
theorem bin_neq_tnilI {y:D}:binD P h .neq t (.t .nilIface) y=(eqD P h t (.t .nilIface) y).map fun r=>.t (.bool !r):=rfl
theorem bin_neq_tiface {u:TypeId}{x:T}{y:D}:binD P h .neq t (.t (.iface u x)) y=(eqD P h t (.t (.iface u x)) y).map fun r=>.t (.bool !r):=rfl
theorem bin_eql_tagg {a:List T}{y:D}:binD P h .eql t (.t (.agg a)) y=(eqD P h t (.t (.agg a)) y).map fun r=>.t (.bool r):=rfl
theorem bin_neq_tagg {a:List T}{y:D}:binD P h .neq t (.t (.agg a)) y=(eqD P h t (.t (.agg a)) y).map fun r=>.t (.bool !r):=rfl
end
theorem orN_some {d:D}{y:Option D}:orN (some d) y=some d:=rfl
theorem orN_none {y:Option D}:orN none y=y:=rfl
attribute [simp] orN_some orN_none nilNil
section
variable {k:IntKind}{a b:Int}
theorem bi_add:binInt .add k a k b=some (.int k (k.wrap (a+b))):=by simp [binInt]
theorem bi_sub:binInt .sub k a k b=some (.int k (k.wrap (a-b))):=by simp [binInt]
theorem bi_mul:binInt .mul k a k b=some (.int k (k.wrap (a*b))):=by simp [binInt]
theorem bi_quo (h:¬ b=0):binInt .quo k a k b=some (.int k (k.wrap (a.tdiv b))):=by simp [binInt,h]
theorem bi_rem (h:¬ b=0):binInt .rem k a k b=some (.int k (a.tmod b)):=by simp [binInt,h]
theorem bi_and:binInt .and k a k b=(intBitsT .and k a b).map (.int k):=by simp [binInt]
theorem bi_or:binInt .or k a k b=(intBitsT .or k a b).map (.int k):=by simp [binInt]
theorem bi_eql:binInt .eql k a k b=some (.bool (eqI a b)):=by simp [binInt]
theorem bi_neq:binInt .neq k a k b=some (.bool (!eqI a b)):=by simp [binInt]
theorem bi_lss:binInt .lss k a k b=some (.bool (ltI a b)):=by simp [binInt]
theorem bi_leq:binInt .leq k a k b=some (.bool (leI a b)):=by simp [binInt]
theorem bi_gtr:binInt .gtr k a k b=some (.bool (ltI b a)):=by simp [binInt]
theorem bi_geq:binInt .geq k a k b=some (.bool (leI b a)):=by simp [binInt]
theorem bi_shl {k':IntKind}(h:¬ b<0):binInt .shl k a k' b=some (.int k (k.wrap (a*2 ^ min b.toNat k.bits))):=by simp only [binInt,if_neg h]
theorem bi_shr {k':IntKind}(h:¬ b<0):binInt .shr k a k' b=some (.int k (a.fdiv (2 ^ min b.toNat k.bits))):=by simp only [binInt,if_neg h]
end
section
variable {a b:ByteArray}
theorem bs_add:binStr .add a b=if a.size+b.size≤9223372036854775807 then some (.str (a++b)) else none:=rfl
theorem bs_eql:binStr .eql a b=some (.bool (eqS a b)):=rfl
theorem bs_neq:binStr .neq a b=some (.bool (!eqS a b)):=rfl
theorem bs_lss:binStr .lss a b=some (.bool (Op.bytesLess a.toList b.toList)):=rfl
theorem bs_leq:binStr .leq a b=some (.bool (!Op.bytesLess b.toList a.toList)):=rfl
theorem bs_gtr:binStr .gtr a b=some (.bool (Op.bytesLess b.toList a.toList)):=rfl
end
section
variable {P:Program}{h:H}{s t:TypeId}
theorem conv_int {k:IntKind}{n:Int}:convD P h s t (.t (.int k n))=match tk P t with|.int k=>some (.t (.int k (k.wrap n)))|_=>none:=rfl
theorem conv_str {b:ByteArray}:convD P h s t (.t (.str b))=match tk P t with|.str=>some (.t (.str b))|.slice e=>(match tk P e with|.int .u8=>some (.t (.slice (bytesT b)))|_=>none)|_=>none:=rfl
theorem load_ptr {id i f top:Nat}:loadD P h t (.ptr id i f top)=match h.els id top with
 | some (_,s,es)=>if wholeArr P t i f top s then some (mkAgg (es.flatMap D.cells)) else match es[i]? with
  | some d=>partD P t d.cells f
  | none=>none
 | none=>none:=rfl
theorem load_eptr {x:T}{f:Nat}:loadD P h t (.eptr x f)=partD P t (x.cells.map .t) f:=rfl
theorem idx_slice {es:List T}{k:IntKind}{i:Int}(h0:0≤i):indexAddrD P h t (.t (.slice es)) (.t (.int k i))=match tk P t with|.slice e=>(match es[i.toNat]? with|some y=>if some y.cells.length=sz P e∧0<y.cells.length then some (.eptr y 0) else none|none=>none)|_=>none:=by
 simp only [indexAddrD,if_pos h0];cases tk P t<;>rfl
theorem idx_row {id i0 len top:Nat}{k:IntKind}{i:Int}(h0:0≤i):indexAddrD P h t (.row id i0 len top) (.t (.int k i))=match tk P t with|.slice e=>(match h.els id top with|some (_,s,es)=>if some s=sz P e∧i.toNat<len∧i0+len≤es.length then some (.ptr id (i0+i.toNat) 0 top) else none|none=>none)|_=>none:=by
 simp only [indexAddrD,if_pos h0];cases tk P t<;>rfl
theorem idx_arr {id top:Nat}{k:IntKind}{i:Int}(h0:0≤i):indexAddrD P h t (.ptr id 0 0 top) (.t (.int k i))=match tk P t with|.array n e=>(match h.els id top with|some (_,s,es)=>if some s=sz P e∧top=n∧i.toNat<n then some (.ptr id i.toNat 0 top) else none|none=>none)|_=>none:=by
 simp only [indexAddrD,if_pos h0];cases tk P t<;>rfl
end
theorem Slice.cells1 {x:T}{es:List T}(h:Slice x es):x.cells=[x]:=by rcases h with ⟨rfl,_⟩|rfl<;>rfl
theorem g0 {α:Type}(a:α)(l:List α):(a::l)[0]?=some a:=rfl
attribute [simp] g0
theorem snap_def (h:H)(d:D):snap h d=snapF h 5 d:=rfl
theorem snapF_t (h:H)(n:Nat)(x:T):snapF h n (.t x)=some x:=by cases n<;>rfl
theorem snapF_row (h:H)(n id i len top:Nat):snapF h (n+1) (.row id i len top)=match h.els id top with
 | some (_,_,es)=>if i+len≤es.length then (allM (snapF h n) ((es.drop i).take len)).map .slice else none
 | none=>none:=rfl
theorem snapF_map (h:H)(n:Nat)(xs:List T):allM (snapF h n) (xs.map .t)=some xs:=by
 induction xs with
 | nil=>rfl
 | cons x xs ih=>simp only [List.map_cons,allM,ih,snapF_t]
attribute [simp] snap_def snapF_t snapF_row snapF_map
attribute [simp] bin_eql_func bin_neq_iface bin_eql_tnilF bin_neq_tnilI bin_neq_tiface bin_eql_tagg bin_neq_tagg
attribute [simp] bin_bool_eql bin_bool_neq
attribute [simp] len_nil len_slice len_str len_row bin_int bin_str bi_add bi_sub bi_mul bi_quo bi_rem bi_and bi_or bi_eql bi_neq bi_lss bi_leq bi_gtr bi_geq bi_shl bi_shr bs_add bs_eql bs_neq bs_lss bs_leq bs_gtr conv_int conv_str
attribute [simp] load_ptr load_eptr idx_slice idx_row idx_arr fieldAddrD nilCheckD partD fieldD unD assertD failD holdD indexD boundD
end Vai
namespace Vai
open Go
variable [Gl]
theorem empty_push_set {o o':AObj}:(H.empty.push o).set 0 o'=H.empty.push o':=push_set (h:=.empty)
attribute [simp] empty_push_set
theorem parts_none {x:T}(h:x.cells=[x]):(D.t x).parts=none:=by
 cases x with
 | agg cs =>
  exfalso;simp only [T.cells] at h;have:=congrArg SizeOf.sizeOf h;simp at this;omega
 | _=>rfl
theorem store_one {P:Program}{h:H}{t bt:TypeId}{id i top:Nat}{xs:List T}{y:T}(ho:h.objs id=some (.row bt 1 (xs.map .t)))(htop:xs.length=top)(hi:i<top)(hxs:∀ x∈xs,x.cells=[x])(hy:y.cells=[y])(hs:sz P t=some 1)(ht:(tk P t).isAgg=false) :
  storeD P h t (.ptr id i 0 top) (.t y)=some (h.set id (.row bt 1 ((xs.set i y).map .t))):=by
 have hw:∀ s,wholeArr P t i 0 top s=false:=fun s=>by
  unfold wholeArr;split
  · rename_i e; rw [e] at ht; cases ht
  · rfl
 have hm:h.mays id [D.t y]=true:=mays_trees h id [y];have hok:okCells [D.t y]=true:=by simp [okCells,hy]
 have hx1:xs[i].cells=[xs[i]]:=hxs _ (List.getElem_mem _);have hget:(xs.map D.t)[i]?=some (.t xs[i]):=by simp [htop,hi]
 have h1:(D.t y).cells=[.t y]:=by simp [hy]
 have hput:putCells (D.t xs[i]) 0 [.t y] = .t y:=by
  simp only [putCells,parts_none hx1];rfl
 simp [-H.mays,storeD,H.els,ho,htop,hm,hok,hs,hw,hget,h1,hx1,hput]
end Vai
namespace Vai
open Go
variable [Gl]
def yes:Option (D × H)→Bool
 | some (.t (.bool true),_)=>true
 | _=>false
end Vai

namespace Vai
open Go
variable [Gl]
theorem keepT {cc:Cc}{call:ACall}{k:FuncId}{args:List D}{h h':H}{d:D}(hcb:callable cc.P k=true)(hm:cc.md k = .keep)(hc:call k args h=some (d,h'))(hp:d.isPan=false:=by rfl):callD cc call k args h=some (d,h'):=by
 simp only [callD,hcb,if_true,hm,hc,noPan,hp,Bool.false_eq_true,if_false]
theorem panT {cc:Cc}{call:ACall}{k:FuncId}{args:List D}{h h':H}{x:T}(hcb:callable cc.P k=true)(hm:cc.md k = .keep)(hc:call k args h=some (.pan x,h')):callD cc call k args h=none∧callX cc call k args h=some (x,h'):=by
 constructor
 · simp only [callD,hcb,if_true,hm,hc,noPan,D.isPan]
 · simp only [callX,hcb,if_true,hm,hc,panOf]
theorem refsB_t (n:Nat)(x:T):(D.t x).refsB n=true:=rfl
theorem refsB_row (n id i l top:Nat):(D.row id i l top).refsB n=decide (id<n):=rfl
attribute [simp] refsB_t refsB_row
theorem set_set (h:H)(i:Nat)(a b:AObj):(h.set i a).set i b=h.set i b:=by
 simp only [H.set,H.mk.injEq,and_true]
 funext k
 simp only [upd];split<;>rfl
attribute [simp] set_set
theorem parts_t (cs:List T):(D.t (.agg cs)).parts=some (cs.map .t):=rfl
attribute [simp] parts_t varD storeD wholeArr putCells splice mkAgg okCells buildD placesD fillD chunk ofCells minmaxD mmAll mm2 eqD eqNil nilD refOK arrAgg
end Vai
