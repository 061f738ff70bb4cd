import Derived.Test.YtaldobgfbkllfaaGreatDoorVaiSp
import Derived.Test.YtaldobgfbkllfaaGreatDoorVaiSn
import Derived.Test.YtaldobgfbkllfaaGreatDoorVaiSo
set_option linter.unusedSimpArgs false
set_option linter.unusedVariables false
set_option linter.unusedSectionVars false
namespace Go.Proofs.YtaldobgfbkllfaaGreatDoor
open Vai P0
set_option maxHeartbeats 0
set_option maxRecDepth 100000
inductive Ex where
 | leaf (p:PT)
 | one (op:Int) (a:Ex) (q:Int)
 | two (op:Int) (a b:Ex) (q:Int)
 | tri (a b c:Ex) (q:Int)
def Ex.len:Ex→Nat
 | .leaf _=>1
 | .one _ a _=>a.len+1
 | .two _ a b _=>a.len+b.len+1
 | .tri a b c _=>a.len+b.len+c.len+1
def Ex.fl:Ex→Nat→List PT
 | .leaf p,_=>[p]
 | .one op a q,o=>a.fl o ++ [nod op ((o+a.len-1:Nat):Int) 0 0 q]
 | .two op a b q,o=>a.fl o++(b.fl (o+a.len) ++ [nod op ((o+a.len-1:Nat):Int) ((o+a.len+b.len-1:Nat):Int) 0 q])
 | .tri a b c q,o=>a.fl o++(b.fl (o+a.len)++(c.fl (o+a.len+b.len) ++ [nod 19 ((o+a.len-1:Nat):Int) ((o+a.len+b.len-1:Nat):Int) ((o+a.len+b.len+c.len-1:Nat):Int) q]))
theorem Ex.pos (e:Ex):0<e.len:=by cases e<;>simp [Ex.len]
theorem fl_len (e:Ex):∀ o,(e.fl o).length=e.len:=by
 induction e with
 | leaf p=>intro o; rfl
 | one op a q ih=>intro o; simp [Ex.fl,Ex.len,ih]
 | two op a b q ih1 ih2=>intro o; simp [Ex.fl,Ex.len,ih1,ih2]; omega
 | tri a b c q ih1 ih2 ih3=>intro o; simp [Ex.fl,Ex.len,ih1,ih2,ih3]; omega
inductive Mt where
 | lv (l:Nat)
 | ch (l:Nat) (a:Ex) (n:Nat)
 | br
inductive Tr:Mt→List Tk→Nat→Ex→List Tk→Prop
 | un {t ts k op e ts2}:negA (sg (t::ts))=some op→Tr (.lv 0) ts k e ts2→Tr (.lv 0) (t::ts) (k+1) (.one op e t.pos) ts2
 | leaf {t ts p}:negA (sg (t::ts))=none→leafA t=some p→Tr (.lv 0) (t::ts) 0 (.leaf p) ts
 | ubr {t ts k e ts2}:negA (sg (t::ts))=none→t.kind=4→Tr .br (t::ts) k e ts2→Tr (.lv 0) (t::ts) k e ts2
 | len {t ts k e ts2}:t.kind≠1→t.kind≠2→t.kind≠4→t.text=bLen→Tr .br ts k e ts2→Tr (.lv 0) (t::ts) k (.one 5 e t.pos) ts2
 | br {t ts k e t2 ts2}:sg (t::ts)=bOpen→Tr (.lv 6) ts k e (t2::ts2)→sg (t2::ts2)=bClose→Tr .br (t::ts) (k+1) e ts2
 | lv {m ts k a ts2 k2 e ts3}:m≤4→Tr (.lv m) ts k a ts2→Tr (.ch (m+1) a 0) ts2 k2 e ts3→Tr (.lv (m+1)) ts (max k k2) e ts3
 | ce {m ts a n}:((m=2∧1≤n)∨opA (m+1) (sg ts)=none)→Tr (.ch (m+1) a n) ts 0 a ts
 | ch {m t ts i k b ts2 k2 e ts3 a n}:¬ (m=2∧1≤n)→opA (m+1) (sg (t::ts))=some i→Tr (.lv m) ts k b ts2→Tr (.ch (m+1) (.two (6+i) a b t.pos) (n+1)) ts2 k2 e ts3 →
  Tr (.ch (m+1) a n) (t::ts) (max k k2) e ts3
 | fno {ts k a ts2}:Tr (.lv 5) ts k a ts2→sg ts2≠bAsk→Tr (.lv 6) ts k a ts2
 | fo {ts k a t ts2 k2 b t3 ts3 k3 c ts4}:Tr (.lv 5) ts k a (t::ts2)→sg (t::ts2)=bAsk→Tr (.lv 6) ts2 k2 b (t3::ts3)→sg (t3::ts3)=bColon→Tr (.lv 6) ts3 k3 c ts4 →
  Tr (.lv 6) ts (max k (max (k2+1) (k3+1))) (.tri a b c t.pos) ts4
def TrIs:Mo→List Tk→Nat→List PT→PR→Prop
 | .ch l a n,ts,d,out,.ok v ts2 out2=>∀ (o0:List PT) (ea:Ex),out=o0++ea.fl o0.length→a=o0.length+ea.len-1→d≤16→∃ k e,d+k≤16∧Tr (.ch l ea n) ts k e ts2∧out2=o0++e.fl o0.length∧v=o0.length+e.len-1
 | .lv l,ts,d,out,.ok v ts2 out2=>d≤16→∃ k e,d+k≤16∧Tr (.lv l) ts k e ts2∧out2=out++e.fl out.length∧v=out.length+e.len-1
 | .br,ts,d,out,.ok v ts2 out2=>d≤16→∃ k e,d+k≤16∧Tr .br ts k e ts2∧out2=out++e.fl out.length∧v=out.length+e.len-1
 | _,_,_,_,.er _ _=>True
theorem rd_tr {L:Int}{mo:Mo}{ts:List Tk}{d:Nat}{out:List PT}{r:PR}(h:Rd L mo ts d out r):TrIs mo ts d out r:=by
 induction h with
 | un_ok h1 h2 h3 ih =>
  intro hd;obtain ⟨k,e,g1,g2,rfl,rfl⟩:=ih (by omega)
  exact ⟨k+1,.one _ e _,by omega,.un h1 g2,by simp [Ex.fl],by simp [Ex.len,fl_len]⟩
 | un_leaf h1 h2=>exact fun hd=>⟨0,.leaf _,by omega,.leaf h1 h2,rfl,by simp [Ex.len]⟩
 | un_br h1 h2 h3 ih =>
  rename_i r
  cases r with
  | er p w=>trivial
  | ok v ts2 out2 =>
   intro hd;obtain ⟨k,e,g1,g2,g3,g4⟩:=ih hd;exact ⟨k,e,g1,.ubr h1 h2 g2,g3,g4⟩
 | len_ok h1 h2 h3 h4 h5 ih =>
  intro hd;obtain ⟨k,e,g1,g2,rfl,rfl⟩:=ih hd;exact ⟨k,.one 5 e _,by omega,.len h1 h2 h3 h4 g2,by simp [Ex.fl],by simp [Ex.len,fl_len]⟩
 | br_ok h1 h2 h3 h4 ih =>
  intro hd;obtain ⟨k,e,g1,g2,rfl,rfl⟩:=ih (by omega)
  exact ⟨k+1,e,by omega,.br h1 g2 h4,rfl,rfl⟩
 | lv_ok h1 h2 h3 ih1 ih2 =>
  rename_i r
  cases r with
  | er p w=>trivial
  | ok v ts4 out4 =>
   intro hd;obtain ⟨k,e,g1,g2,rfl,rfl⟩:=ih1 hd;obtain ⟨k2,e2,g3,g4,g5,g6⟩:=ih2 _ e rfl rfl hd;exact ⟨max k k2,e2,by omega,.lv h1 g2 g4,g5,g6⟩
 | ch_end h1=>exact fun o0 ea ho ha hd=>⟨0,ea,by omega,.ce h1,ho,ha⟩
 | ch_ok h1 h2 h3 h4 ih1 ih2 =>
  rename_i r _ _ _
  cases r with
  | er p w=>trivial
  | ok v ts4 out4 =>
   intro o0 ea ho ha hd;subst ho ha;obtain ⟨k,e,g1,g2,rfl,rfl⟩:=ih1 hd;have ea1:=ea.pos;have e1:=e.pos;obtain ⟨k2,e2,g3,g4,g5,g6⟩:=ih2 o0 (.two _ ea e _) (by simp only [Ex.fl,List.length_append,fl_len,List.append_assoc]; rfl) (by simp [Ex.len,fl_len]) hd
   exact ⟨max k k2,e2,by omega,.ch h1 h2 g2 g4,g5,g6⟩
 | fo_no h1 h2 ih =>
  intro hd;obtain ⟨k,e,g1,g2,g3,g4⟩:=ih hd;exact ⟨k,e,g1,.fno g2 h2,g3,g4⟩
 | fo_ok h1 h2 h3 h4 h5 h6 ih1 ih2 ih3 =>
  intro hd;obtain ⟨k,a,g1,g2,rfl,rfl⟩:=ih1 hd;obtain ⟨k2,b,g3,g4,rfl,rfl⟩:=ih2 (by omega)
  obtain ⟨k3,c,g5,g6,rfl,rfl⟩:=ih3 (by omega)
  exact ⟨_,.tri a b c _,by omega,.fo g2 h2 g4 h5 g6,by simp [Ex.fl,fl_len,Nat.add_assoc],by simp [Ex.len,fl_len]; omega⟩
 | _=>trivial
theorem tr_suf {m:Mt}{ts:List Tk}{k:Nat}{e:Ex}{ts2:List Tk}(h:Tr m ts k e ts2):ts2 <:+ ts:=by
 induction h with
 | un h1 h2 ih=>exact ih.trans (List.suffix_cons _ _)
 | leaf h1 h2=>exact List.suffix_cons _ _
 | ubr h1 h2 h3 ih=>exact ih
 | len h1 h2 h3 h4 h5 ih=>exact ih.trans (List.suffix_cons _ _)
 | br h1 h2 h3 ih=>exact ((List.suffix_cons _ _).trans ih).trans (List.suffix_cons _ _)
 | lv h1 h2 h3 ih1 ih2=>exact ih2.trans ih1
 | ce h1=>exact List.suffix_refl _
 | ch h1 h2 h3 h4 ih1 ih2=>exact (ih2.trans ih1).trans (List.suffix_cons _ _)
 | fno h1 h2 ih=>exact ih
 | fo h1 h2 h3 h4 h5 ih1 ih2 ih3=>exact ((ih3.trans (List.suffix_cons _ _)).trans ih2).trans ((List.suffix_cons _ _).trans ih1)
def RdIs (L:Int):Mt→List Tk→Nat→Ex→List Tk→Prop
 | .ch l ea n,ts,k,e,ts2=>∀ (d:Nat) (o0:List PT),d≤16→(d+k≤16→Rd L (.ch l (o0.length+ea.len-1) n) ts d (o0++ea.fl o0.length) (.ok (o0.length+e.len-1) ts2 (o0++e.fl o0.length))) ∧
  (16<d+k→∃ t∈ts,Rd L (.ch l (o0.length+ea.len-1) n) ts d (o0++ea.fl o0.length) (.er t.pos 134))
 | .lv l,ts,k,e,ts2=>∀ (d:Nat) (out:List PT),d≤16→(d+k≤16→Rd L (.lv l) ts d out (.ok (out.length+e.len-1) ts2 (out++e.fl out.length)))∧(16<d+k→∃ t∈ts,Rd L (.lv l) ts d out (.er t.pos 134))
 | .br,ts,k,e,ts2=>∀ (d:Nat) (out:List PT),d≤16→(d+k≤16→Rd L .br ts d out (.ok (out.length+e.len-1) ts2 (out++e.fl out.length)))∧(16<d+k→∃ t∈ts,Rd L .br ts d out (.er t.pos 134))
theorem tr_rd {L:Int}{m:Mt}{ts:List Tk}{k:Nat}{e:Ex}{ts2:List Tk}(h:Tr m ts k e ts2):RdIs L m ts k e ts2:=by
 induction h with
 | un h1 h2 ih =>
  rename_i t ts k op e ts2;intro d out hd;refine ⟨fun hk=>?_,fun hk=>?_⟩
  · have q:=Rd.un_ok h1 (by omega) ((ih (d+1) out (by omega)).1 (by omega))
    have e1:(out++e.fl out.length).length=out.length+(Ex.one op e t.pos).len-1:=by simp [Ex.len,fl_len]
    rw [e1] at q;simpa only [Ex.fl,List.append_assoc] using q
  · by_cases h16:d<16
    · obtain ⟨x,hx,q⟩:=(ih (d+1) out (by omega)).2 (by omega)
      exact ⟨x,List.mem_cons_of_mem _ hx,.un_er h1 h16 q⟩
    · exact ⟨t,List.mem_cons_self,.un_deep h1 (by omega)⟩
 | leaf h1 h2 =>
  intro d out hd;exact ⟨fun hk=>by have q:=Rd.un_leaf (L:=L) (d:=d) (out:=out) h1 h2; simpa [Ex.len,Ex.fl] using q,fun hk=>absurd hk (by omega)⟩
 | ubr h1 h2 h3 ih =>
  intro d out hd;refine ⟨fun hk=>.un_br h1 h2 ((ih d out hd).1 hk),fun hk=>?_⟩
  obtain ⟨x,hx,q⟩:=(ih d out hd).2 hk;exact ⟨x,hx,.un_br h1 h2 q⟩
 | len h1 h2 h3 h4 h5 ih =>
  rename_i t ts k e ts2;intro d out hd;refine ⟨fun hk=>?_,fun hk=>?_⟩
  · have q:=Rd.len_ok h1 h2 h3 h4 ((ih d out hd).1 hk)
    have e1:(out++e.fl out.length).length=out.length+(Ex.one 5 e t.pos).len-1:=by simp [Ex.len,fl_len]
    rw [e1] at q;simpa only [Ex.fl,List.append_assoc] using q
  · obtain ⟨x,hx,q⟩:=(ih d out hd).2 hk
    exact ⟨x,List.mem_cons_of_mem _ hx,.len_er h1 h2 h3 h4 q⟩
 | br h1 h2 h3 ih =>
  rename_i t ts k e t2 ts2;intro d out hd;refine ⟨fun hk=>.br_ok h1 (by omega) ((ih (d+1) out (by omega)).1 (by omega)) h3,fun hk=>?_⟩
  by_cases h16:d<16
  · obtain ⟨x,hx,q⟩:=(ih (d+1) out (by omega)).2 (by omega)
    exact ⟨x,List.mem_cons_of_mem _ hx,.br_er h1 h16 q⟩
  · exact ⟨t,List.mem_cons_self,.br_deep h1 (by omega)⟩
 | lv h1 h2 h3 ih1 ih2 =>
  rename_i m ts k a ts2 k2 e ts3;intro d out hd;refine ⟨fun hk=>.lv_ok h1 ((ih1 d out hd).1 (by omega)) ((ih2 d out hd).1 (by omega)),fun hk=>?_⟩
  by_cases h16:d+k≤16
  · obtain ⟨x,hx,q⟩:=(ih2 d out hd).2 (by omega)
    exact ⟨x,(tr_suf h2).subset hx,.lv_ok h1 ((ih1 d out hd).1 h16) q⟩
  · obtain ⟨x,hx,q⟩:=(ih1 d out hd).2 (by omega)
    exact ⟨x,hx,.lv_er h1 q⟩
 | ce h1=>exact fun d o0 hd=>⟨fun hk=>.ch_end h1,fun hk=>absurd hk (by omega)⟩
 | ch h1 h2 h3 h4 ih1 ih2 =>
  rename_i m t ts i k b ts2 k2 e ts3 a n;intro d o0 hd;have a1:=a.pos;have b1:=b.pos;have e1:(o0++a.fl o0.length++b.fl (o0++a.fl o0.length).length).length=o0.length+(Ex.two (6+i) a b t.pos).len-1:=by simp [Ex.len,fl_len]
  have e2:o0++a.fl o0.length++b.fl (o0++a.fl o0.length).length ++ [nod (6+i) (o0.length+a.len-1:Nat) ((o0++a.fl o0.length).length+b.len-1:Nat) 0 t.pos]=o0++(Ex.two (6+i) a b t.pos).fl o0.length:=by
    simp only [Ex.fl,List.length_append,fl_len,List.append_assoc]
  by_cases h16:d+k≤16
  · have q:=(ih1 d (o0++a.fl o0.length) hd).1 h16
    refine ⟨fun hk=>.ch_ok h1 h2 q ?_,fun hk=>?_⟩
    · rw [e1,e2]; exact (ih2 d o0 hd).1 (by omega)
    · obtain ⟨x,hx,q2⟩:=(ih2 d o0 hd).2 (by omega)
      refine ⟨x,List.mem_cons_of_mem _ ((tr_suf h3).subset hx),.ch_ok h1 h2 q ?_⟩;rw [e1,e2]; exact q2
  · refine ⟨fun hk=>absurd hk (by omega),fun hk=>?_⟩
    obtain ⟨x,hx,q⟩:=(ih1 d (o0++a.fl o0.length) hd).2 (by omega)
    exact ⟨x,List.mem_cons_of_mem _ hx,.ch_er h1 h2 q⟩
 | fno h1 h2 ih =>
  intro d out hd;refine ⟨fun hk=>.fo_no ((ih d out hd).1 hk) h2,fun hk=>?_⟩
  obtain ⟨x,hx,q⟩:=(ih d out hd).2 hk;exact ⟨x,hx,.fo_er q⟩
 | fo h1 h2 h3 h4 h5 ih1 ih2 ih3 =>
  rename_i ts k a t ts2 k2 b t3 ts3 k3 c ts4;intro d out hd;have a1:=a.pos;have b1:=b.pos;have c1:=c.pos;by_cases h16:d+k≤16
  · have q1:=(ih1 d out hd).1 h16
    by_cases hd2:d<16
    · by_cases h17:d+1+k2≤16
      · have q2:=(ih2 (d+1) (out++a.fl out.length) (by omega)).1 h17
        by_cases h18:d+1+k3≤16
        · refine ⟨fun hk=>?_,fun hk=>absurd hk (by omega)⟩
          have q3:=(ih3 (d+1) (out++a.fl out.length++b.fl (out++a.fl out.length).length) (by omega)).1 h18
          have q:=Rd.fo_ok q1 h2 hd2 q2 h4 q3;simp only [List.length_append,fl_len,List.append_assoc] at q;rw [show out.length+(a.len+(b.len+c.len))=out.length+(Ex.tri a b c t.pos).len-1 by simp [Ex.len]; omega] at q
          simpa only [Ex.fl,List.append_assoc,Nat.add_assoc] using q
        · refine ⟨fun hk=>absurd hk (by omega),fun hk=>?_⟩
          obtain ⟨x,hx,q3⟩:=(ih3 (d+1) (out++a.fl out.length++b.fl (out++a.fl out.length).length) (by omega)).2 (by omega)
          exact ⟨x,(tr_suf h1).subset (List.mem_cons_of_mem _ ((tr_suf h3).subset (List.mem_cons_of_mem _ hx))),.fo_c q1 h2 hd2 q2 h4 q3⟩
      · refine ⟨fun hk=>absurd hk (by omega),fun hk=>?_⟩
        obtain ⟨x,hx,q2⟩:=(ih2 (d+1) (out++a.fl out.length) (by omega)).2 (by omega)
        exact ⟨x,(tr_suf h1).subset (List.mem_cons_of_mem _ hx),.fo_b q1 h2 hd2 q2⟩
    · exact ⟨fun hk=>absurd hk (by omega),fun hk=>⟨t,(tr_suf h1).subset List.mem_cons_self,.fo_deep q1 h2 (by omega)⟩⟩
  · refine ⟨fun hk=>absurd hk (by omega),fun hk=>?_⟩
    obtain ⟨x,hx,q⟩:=(ih1 d out hd).2 (by omega)
    exact ⟨x,hx,.fo_er q⟩
theorem opA_close (l:Nat):opA l bClose=none:=by
 unfold opA;rw [show sgn.findIdx? (fun y=>decide (y=bClose))=none by decide]
theorem close_ask:bClose≠bAsk:=by decide
theorem sg_app {ts X:List Tk}(hX:sg X=bClose):sg (ts++X)=if ts=[] then bClose else sg ts:=by
 cases ts with
 | nil=>rw [if_pos rfl]; exact hX
 | cons t ts=>rfl
theorem tr_more {m:Mt}{ts:List Tk}{k:Nat}{e:Ex}{ts2:List Tk}(h:Tr m ts k e ts2){X:List Tk}(hX:sg X=bClose):Tr m (ts++X) k e (ts2++X):=by
 induction h with
 | un h1 h2 ih=>exact .un h1 ih
 | leaf h1 h2=>exact .leaf h1 h2
 | ubr h1 h2 h3 ih=>exact .ubr h1 h2 ih
 | len h1 h2 h3 h4 h5 ih=>exact .len h1 h2 h3 h4 ih
 | br h1 h2 h3 ih=>exact .br h1 ih h3
 | lv h1 h2 h3 ih1 ih2=>exact .lv h1 ih1 ih2
 | ce h1 =>
  refine .ce ?_;rcases h1 with h1|h1
  · exact .inl h1
  · right
    rw [sg_app hX];split
    · exact opA_close _
    · exact h1
 | ch h1 h2 h3 h4 ih1 ih2=>exact .ch h1 h2 ih1 ih2
 | fno h1 h2 ih =>
  refine .fno ih ?_;rw [sg_app hX];split
  · exact close_ask
  · exact h2
 | fo h1 h2 h3 h4 h5 ih1 ih2 ih3=>exact .fo ih1 h2 ih2 h4 ih3
def fwT (q:Int)(t:Tk):Tk:={ t with pos:=t.pos+q }
def PT.fwd (q:Int)(p:PT):PT:={ p with at_:=p.at_+q }
def Ex.fwd (q:Int):Ex→Ex
 | .leaf p=>.leaf (p.fwd q)
 | .one op a r=>.one op (a.fwd q) (r+q)
 | .two op a b r=>.two op (a.fwd q) (b.fwd q) (r+q)
 | .tri a b c r=>.tri (a.fwd q) (b.fwd q) (c.fwd q) (r+q)
def Mt.fwd (q:Int):Mt→Mt
 | .ch l a n=>.ch l (a.fwd q) n
 | m=>m
theorem fwd_len (q:Int)(e:Ex):(e.fwd q).len=e.len:=by
 induction e<;>simp [Ex.fwd,Ex.len, *]
theorem fwd_fl (q:Int)(e:Ex):∀ o,(e.fwd q).fl o=(e.fl o).map (PT.fwd q):=by
 induction e<;>intro o<;>simp [Ex.fwd,Ex.fl,fwd_len,nod,PT.fwd, *]
theorem sg_fwd (q:Int)(ts:List Tk):sg (ts.map (fwT q))=sg ts:=by cases ts<;>rfl
theorem leaf_fwd (q:Int){t:Tk}{p:PT}(h:leafA t=some p):leafA (fwT q t)=some (p.fwd q):=by
 unfold leafA at h ⊢;simp only [fwT] at h ⊢
 repeat' split at h
 all_goals first|(cases h; done)|(cases h; simp_all [PT.fwd])
theorem tr_fwd (q:Int){m:Mt}{ts:List Tk}{k:Nat}{e:Ex}{ts2:List Tk}(h:Tr m ts k e ts2):Tr (m.fwd q) (ts.map (fwT q)) k (e.fwd q) (ts2.map (fwT q)):=by
 induction h with
 | un h1 h2 ih=>exact .un (t:=fwT q _) h1 ih
 | leaf h1 h2=>exact .leaf (t:=fwT q _) h1 (leaf_fwd q h2)
 | ubr h1 h2 h3 ih=>exact .ubr (t:=fwT q _) h1 h2 ih
 | len h1 h2 h3 h4 h5 ih=>exact .len (t:=fwT q _) h1 h2 h3 h4 ih
 | br h1 h2 h3 ih=>exact .br (t:=fwT q _) (t2:=fwT q _) h1 ih h3
 | lv h1 h2 h3 ih1 ih2=>exact .lv h1 ih1 ih2
 | ce h1=>exact .ce (by rw [sg_fwd]; exact h1)
 | ch h1 h2 h3 h4 ih1 ih2=>exact .ch (t:=fwT q _) h1 h2 ih1 ih2
 | fno h1 h2 ih=>exact .fno ih (by rw [sg_fwd]; exact h2)
 | fo h1 h2 h3 h4 h5 ih1 ih2 ih3=>exact .fo (t:=fwT q _) (t3:=fwT q _) ih1 h2 ih2 h4 ih3
def Stops (m:Nat)(ts:List Tk):Prop:=(∀ l,1≤l→l≤m→opA l (sg ts)=none)∧(m=6→sg ts≠bAsk)
theorem tr_lift {ts ts2:List Tk}{k:Nat}{e:Ex}(h:Tr (.lv 0) ts k e ts2):∀ m,m≤5→(∀ l,1≤l→l≤m→opA l (sg ts2)=none)→Tr (.lv m) ts k e ts2:=by
 intro m
 induction m with
 | zero=>exact fun _ _=>h
 | succ m ih =>
  intro hm hs;have q:=Tr.lv (by omega) (ih (by omega) fun l h1 h2=>hs l h1 (by omega)) (.ce (.inr (hs (m+1) (by omega) (by omega))))
  rwa [Nat.max_eq_left (Nat.zero_le _)] at q
theorem tr_lift6 {ts ts2:List Tk}{k:Nat}{e:Ex}(h:Tr (.lv 0) ts k e ts2)(hs:∀ l,1≤l→l≤5→opA l (sg ts2)=none)(ha:sg ts2≠bAsk):Tr (.lv 6) ts k e ts2:=.fno (tr_lift h 5 (by omega) hs) ha
theorem tr_brk {ts X:List Tk}{k:Nat}{e:Ex}{t t2:Tk}(ht:sg (t::ts++t2::X)=bOpen)(ht4:t.kind=4)(h2:sg (t2::X)=bClose)(h:Tr (.lv 6) ts k e []):Tr (.lv 0) (t::(ts++t2::X)) (k+1) e X:=by
 have q:=Tr.br (t:=t) (ts:=ts++t2::X) (t2:=t2) (ts2:=X) ht (tr_more h h2) h2;exact .ubr (by rw [show sg (t::(ts++t2::X))=bOpen from ht]; decide) ht4 q
def StopC (c:Nat):Prop:=c<128∧digitB c=false∧wordB c=false∧c≠61∧c≠38∧c≠124
section
variable {s q:ByteArray}{p:Nat}{R:List UInt8}(hd:q.data.toList.drop p=s.data.toList++R)
include hd
theorem em_bt {k:Nat}(hk:k<s.size):bt q (p+k)=bt s k:=by
 have hl:=len_bytes s;rw [bt_at hd,bt_drop,List.getD_eq_getElem?_getD,List.getElem?_append_left (by omega),List.getD_eq_getElem?_getD,List.getElem?_drop,Nat.add_zero]
theorem em_cut {i j:Nat}(hij:i≤j)(hj:j≤s.size):cut q (p+i) (p+j)=cut s i j:=by
 have hl:=len_bytes s;unfold cut;rw [←List.drop_drop,hd,show p+j-(p+i)=j-i by omega,List.drop_append_of_le_length (by omega),List.take_append_of_le_length (by rw [List.length_drop]; omega)]
theorem em_ext {i j:Nat}(hij:i≤j)(hj:j≤s.size):q.extract (p+i) (p+j)=s.extract i j:=by
 rw [extract_cut hij,extract_cut (show p+i≤p+j by omega),em_cut hd hij hj]
variable (hz:p+s.size<q.size)
include hz
theorem em_nx {i:Nat}(hi:i<s.size)(h0:(nx s i).2≠0):nx q (p+i)=nx s i:=by
 have h2:=(nx_some h0).2.1;exact nx_part h0 hi (by omega) fun k hk=>by rw [Nat.add_assoc,em_bt hd (by omega)]
theorem em_run' {P:Nat→Bool}{i:Nat}(h:runTo P s i<s.size):runTo P q (p+i)=p+runTo P s i:=by
 have hge:=runTo_ge P s i;refine runTo_at (by omega) (by omega) (fun k h1 h2=>?_) (fun ⟨h1,h2⟩=>?_)
 · have:=em_bt hd (k:=k-p) (by omega)
   rw [show p+(k-p)=k by omega] at this
   rw [this]; exact runTo_all (i:=i) (k-p) (by omega) (by omega)
 · rw [em_bt hd h] at h2
   exact runTo_stops (i:=i) (by omega) ⟨h,h2⟩
theorem em_run {P:Nat→Bool}(hP:P (bt q (p+s.size))=false){i:Nat}(hi:i≤s.size):runTo P q (p+i)=p+runTo P s i:=by
 have hge:=runTo_ge P s i;have hle:=runTo_le (p:=P) hi;refine runTo_at (by omega) (by omega) (fun k h1 h2=>?_) (fun ⟨h1,h2⟩=>?_)
 · have:=em_bt hd (k:=k-p) (by omega)
   rw [show p+(k-p)=k by omega] at this
   rw [this]; exact runTo_all (i:=i) (k-p) (by omega) (by omega)
 · by_cases h:runTo P s i<s.size
   · rw [em_bt hd h] at h2
     exact runTo_stops (i:=i) (by omega) ⟨h,h2⟩
   · rw [show runTo P s i=s.size by omega,hP] at h2
     cases h2
theorem em_txt {fr i:Nat}{out o:List UInt8}{e:Nat}(h:txt s fr i out = .ok (o,e)):txt q (p+fr) (p+i) out = .ok (o,p+e):=by
 fun_induction txt s fr i out with
 | case1=>cases h
 | case2 i out h1 h2 =>
  cases h;rw [txt,if_neg (by omega),em_bt hd (by omega),if_pos h2]
 | case3=>cases h
 | case4=>cases h
 | case5 i out h1 h2 h3 h4 h5 hc ih =>
  have hgt:=txt_gt h;have hnc:=nx_char hc;have h5':bt s (i+1)=34∨bt s (i+1)=92:=by omega
  have hn1:(nx s (i+1)).2=1:=by rw [nx_ascii (by omega) (by omega)]
  have b0:=em_bt hd (show i<s.size by omega)
  have b1:=em_bt hd (show i+1<s.size by omega)
  rw [←Nat.add_assoc] at b1;rw [txt_back (by omega) (by rw [b0]; exact h3) (by rw [b1]; exact h5')]
  rw [hn1] at ih h;have ec:=em_cut hd (i:=i+1) (j:=i+2) (by omega) (by omega)
  rw [show p+i+1=p+(i+1) by omega,show p+i+2=p+(i+2) by omega,ec]
  exact ih h
 | case6=>cases h
 | case7 i out h1 h2 h3 hc ih =>
  have hgt:=txt_gt h;have hnc:=nx_char hc;have hnx:=em_nx hd hz (i:=i) (by omega) (by omega)
  have b0:=em_bt hd (show i<s.size by omega)
  rw [txt_step (by omega) (by rw [b0]; exact h2) (by rw [b0]; exact h3),hnx,if_pos hc,Nat.add_assoc,em_cut hd (by omega) (by omega)]
  exact ih h
 | case8=>cases h
theorem em_bad {i:Nat}(hi:i≤s.size)(h:bad s i = -1):bad q (p+i)=bad q (p+s.size):=by
 fun_induction bad s i with
 | case1 i h1=>rw [show i=s.size by omega]
 | case2=>omega
 | case3 i h1 h2 ih =>
  have h3:=(nx_some h2).2.1;rw [bad_step (by omega),em_nx hd hz (by omega) h2,if_neg h2,Nat.add_assoc]
  exact ih h3 h
variable (hst:StopC (bt q (p+s.size)))
include hst
theorem em_sign {i:Nat}(hi:i<s.size):signL q (p+i)=signL s i:=by
 obtain ⟨_,_,_,s1,s2,s3⟩:=hst;have b0:=em_bt hd hi;unfold signL;rw [b0,Nat.add_assoc p i 1];by_cases h1:i+1<s.size
 · rw [em_bt hd h1]
   have:p+i+2≤q.size↔i+2≤s.size:=by constructor<;>intro<;>omega
   simp only [this]
 · rw [show i+1=s.size by omega]
   have e1:¬ (i+2≤s.size):=by omega
   simp only [e1,false_and,if_false,s1,s2,s3,and_false,or_false]
theorem em_tok {i j:Nat}{t:Tk}(h:tok1 s i = .ok (t,j))(hi:i<s.size):tok1 q (p+i) = .ok (fwT p t,p+j):=by
 have b0:=em_bt hd hi;have hst2:=hst;obtain ⟨_,s0,s1,_,_,_⟩:=hst;have hgt:=tok1_gt hi h;unfold tok1 at h ⊢;rw [b0];by_cases c1:digitB (bt s i)=true
 · rw [if_pos c1] at h ⊢
   rw [em_run hd hz s0 (by omega)]
   cases hn:numS (cut s i (runTo digitB s i)) with
   | none=>rw [hn] at h; cases h
   | some n =>
    rw [hn] at h;cases h;rw [em_cut hd (by omega) hgt.2,hn]
    simp only [fwT,Int.natCast_add,Int.add_comm]
 rw [if_neg c1] at h ⊢;by_cases c2:letterB (bt s i)=true
 · rw [if_pos c2] at h ⊢
   rw [em_run hd hz s1 (by omega)]
   cases h;rw [em_ext hd (by omega) hgt.2]
   simp only [fwT,Int.natCast_add,Int.add_comm]
 rw [if_neg c2] at h ⊢;by_cases c3:bt s i=34
 · rw [if_pos c3] at h ⊢
   cases ht:txt s i (i+1) [] with
   | error f=>rw [ht] at h; cases h
   | ok oe =>
    obtain ⟨o,e⟩:=oe;rw [ht] at h;simp only at h;by_cases h64:64<o.length
    · rw [if_pos h64] at h; cases h
    · rw [if_neg h64] at h
      cases h;have:=em_txt hd hz ht;rw [←Nat.add_assoc] at this;rw [this];simp only;rw [if_neg h64];simp only [fwT,Int.natCast_add,Int.add_comm,Nat.add_assoc]
 rw [if_neg c3] at h ⊢;rw [em_sign hd hz hst2 hi];by_cases c4:signL s i=0
 · rw [if_pos c4] at h; cases h
 · rw [if_neg c4] at h ⊢
   cases h;rw [Nat.add_assoc,em_ext hd (by omega) hgt.2]
   simp only [fwT,Int.natCast_add,Int.add_comm]
theorem em_toks:∀ (n:Nat) {i:Nat} {l m:List Tk},s.size-i≤n→i≤s.size→toks s i [] = .ok l→toks q (p+s.size) [] = .ok m→toks q (p+i) [] = .ok (l.map (fwT p)++m):=by
 intro n
 induction n with
 | zero =>
  intro i l m hn hi hl hm;obtain rfl:i=s.size:=by omega
  rcases toks_cons (Nat.le_refl _) hl with ⟨h1,rfl⟩|⟨t,j,l',h1,_⟩
  · simpa using hm
  · have:=runTo_ge blankB s s.size; omega
 | succ n ih =>
  intro i l m hn hi hl hm;have hge:=runTo_ge blankB s i;rcases toks_cons hi hl with ⟨h1,rfl⟩|⟨t,j,l',h1,h2,rfl,h3⟩
  · refine toks_skip (n:=s.size-i) (by omega) (fun k hk=>?_) (by rw [show p+i+(s.size-i)=p+s.size by omega]; simpa using hm)
    rw [Nat.add_assoc,em_bt hd (by omega)]
    exact runTo_all (i:=i) (i+k) (by omega) (by omega)
  · have hgt:=tok1_gt h1 h2
    have q1:=em_tok hd hz hst h2 h1;have q2:=em_run' hd hz h1;exact toks_mk (by omega) (by rw [q2]; exact q1) (ih (by omega) hgt.2 h3 hm)
end
def WfE:Ex→Prop
 | .leaf p=>p.k=1∨p.k=2
 | .one op a _=>(op=3∨op=4∨op=5)∧WfE a
 | .two op a b _=>(6≤op∧op≤18)∧WfE a∧WfE b
 | .tri a b c _=>WfE a∧WfE b∧WfE c
def kE (ds:List DV):Ex→Int
 | .leaf p=>kdS p ds fun _=>0
 | .one op a _=>kdS (nod op 0 0 0 0) ds fun _=>kE ds a
 | .two op a b _=>kdS (nod op 0 1 0 0) ds fun j=>if j=0 then kE ds a else kE ds b
 | .tri a b c _=>kdS (nod 19 0 1 2 0) ds fun j=>if j=0 then kE ds a else if j=1 then kE ds b else kE ds c
def gE (ds:List DV):Ex→Bool
 | .leaf p=>!decide (kE ds (.leaf p)=0)
 | .one op a q=>gE ds a && !decide (kE ds (.one op a q)=0)
 | .two op a b q=>gE ds a&&gE ds b && !decide (kE ds (.two op a b q)=0)
 | .tri a b c q=>gE ds a&&gE ds b&&gE ds c && !decide (kE ds (.tri a b c q)=0)
def evE (vl:List WV):Ex→V3 × Int
 | .leaf p=>evB (fun _=>(z3,0)) vl p
 | .one op a _=>evB (fun _=>evE vl a) vl (nod op 0 0 0 0)
 | .two op a b _=>evB (fun j=>if j=0 then evE vl a else evE vl b) vl (nod op 0 1 0 0)
 | .tri a b c _=>evB (fun j=>if j=0 then evE vl a else if j=1 then evE vl b else evE vl c) vl (nod 19 0 1 2 0)
theorem leaf_k {t:Tk}{p:PT}(h:leafA t=some p):p.k=1∨p.k=2:=by
 unfold leafA at h
 repeat' split at h
 all_goals first|(cases h; done)|(cases h; first|exact .inl rfl|exact .inr rfl)
theorem tr_wf {m:Mt}{ts:List Tk}{k:Nat}{e:Ex}{ts2:List Tk}(h:Tr m ts k e ts2):(match m with|.ch _ a _=>WfE a→WfE e|_=>WfE e):=by
 induction h with
 | un h1 h2 ih=>exact ⟨negA_op h1,ih⟩
 | leaf h1 h2=>exact leaf_k h2
 | ubr h1 h2 h3 ih=>exact ih
 | len h1 h2 h3 h4 h5 ih=>exact ⟨.inr (.inr rfl),ih⟩
 | br h1 h2 h3 ih=>exact ih
 | lv h1 h2 h3 ih1 ih2=>exact ih2 ih1
 | ce h1=>exact id
 | ch h1 h2 h3 h4 ih1 ih2 =>
  have:=opA_lt h2;exact fun ha=>ih2 ⟨⟨by omega,by omega⟩,ha,ih1⟩
 | fno h1 h2 ih=>exact ih
 | fo h1 h2 h3 h4 h5 ih1 ih2 ih3=>exact ⟨ih1,ih2,ih3⟩
def At (ps:List PT)(o:Nat)(e:Ex):Prop:=∀ i,i<e.len→ps[o+i]? = (e.fl o)[i]?
theorem At.self (e:Ex):At (e.fl 0) 0 e:=fun i hi=>by rw [Nat.zero_add]
theorem At.one {ps:List PT}{o:Nat}{op:Int}{a:Ex}{q:Int}(h:At ps o (.one op a q)):At ps o a∧ps[o+a.len]?=some (nod op ((o+a.len-1:Nat):Int) 0 0 q):=by
 refine ⟨fun i hi=>?_,?_⟩
 · rw [h i (by simp [Ex.len]; omega),Ex.fl,List.getElem?_append_left (by rw [fl_len]; exact hi)]
 · rw [h a.len (by simp [Ex.len]),Ex.fl,List.getElem?_append_right (by rw [fl_len]; omega),fl_len,Nat.sub_self]
   rfl
theorem At.two {ps:List PT}{o:Nat}{op:Int}{a b:Ex}{q:Int}(h:At ps o (.two op a b q)):At ps o a∧At ps (o+a.len) b ∧
   ps[o+a.len+b.len]?=some (nod op ((o+a.len-1:Nat):Int) ((o+a.len+b.len-1:Nat):Int) 0 q):=by
 refine ⟨fun i hi=>?_,fun i hi=>?_,?_⟩
 · rw [h i (by simp [Ex.len]; omega),Ex.fl,List.getElem?_append_left (by rw [fl_len]; exact hi)]
 · rw [Nat.add_assoc,h (a.len+i) (by simp [Ex.len]; omega),Ex.fl,List.getElem?_append_right (by rw [fl_len]; omega),fl_len,show a.len+i-a.len=i by omega,List.getElem?_append_left (by rw [fl_len]; exact hi)]
 · rw [Nat.add_assoc,h (a.len+b.len) (by simp [Ex.len]),Ex.fl,List.getElem?_append_right (by rw [fl_len]; omega),fl_len,show a.len+b.len-a.len=b.len by omega,List.getElem?_append_right (by rw [fl_len]; omega),fl_len,Nat.sub_self,←Nat.add_assoc]
   rfl
theorem At.tri {ps:List PT}{o:Nat}{a b c:Ex}{q:Int}(h:At ps o (.tri a b c q)):At ps o a∧At ps (o+a.len) b∧At ps (o+a.len+b.len) c ∧
   ps[o+a.len+b.len+c.len]?=some (nod 19 ((o+a.len-1:Nat):Int) ((o+a.len+b.len-1:Nat):Int) ((o+a.len+b.len+c.len-1:Nat):Int) q):=by
 refine ⟨fun i hi=>?_,fun i hi=>?_,fun i hi=>?_,?_⟩
 · rw [h i (by simp [Ex.len]; omega),Ex.fl,List.getElem?_append_left (by rw [fl_len]; exact hi)]
 · rw [Nat.add_assoc,h (a.len+i) (by simp [Ex.len]; omega),Ex.fl,List.getElem?_append_right (by rw [fl_len]; omega),fl_len,show a.len+i-a.len=i by omega,List.getElem?_append_left (by rw [fl_len]; exact hi)]
 · rw [show o+a.len+b.len+i=o+(a.len+(b.len+i)) by omega,h (a.len+(b.len+i)) (by simp [Ex.len]; omega),Ex.fl,List.getElem?_append_right (by rw [fl_len]; omega),fl_len,show a.len+(b.len+i)-a.len=b.len+i by omega,
    List.getElem?_append_right (by rw [fl_len]; omega),fl_len,show b.len+i-b.len=i by omega,List.getElem?_append_left (by rw [fl_len]; exact hi)]
 · rw [show o+a.len+b.len+c.len=o+(a.len+(b.len+c.len)) by omega,h (a.len+(b.len+c.len)) (by simp [Ex.len]; omega),Ex.fl,List.getElem?_append_right (by rw [fl_len]; omega),fl_len,show a.len+(b.len+c.len)-a.len=b.len+c.len by omega,
    List.getElem?_append_right (by rw [fl_len]; omega),fl_len,show b.len+c.len-b.len=c.len by omega,List.getElem?_append_right (by rw [fl_len]; omega),fl_len,Nat.sub_self]
   rw [show o+(a.len+(b.len+c.len))=o+a.len+b.len+c.len by omega]
   rfl
theorem kd_leaf {p:PT}{ds:List DV}(hp:p.k=1∨p.k=2)(K K':Int→Int):kdS p ds K=kdS p ds K':=by
 unfold kdS;rcases hp with h|h<;>simp [h]
theorem kd_nod {ds:List DV}{op a b c q a' b' c' q':Int}{K K':Int→Int}(h3:3≤op)(ha:K a=K' a')(hb:6≤op→K b=K' b')(hc:op=19→K c=K' c'):kdS (nod op a b c q) ds K=kdS (nod op a' b' c' q') ds K':=by
 unfold kdS nod;simp only [show ¬ (op=1) by omega,show ¬ (op=2) by omega,if_false,ha]
 by_cases h6:6≤op
 · rw [hb h6]
   by_cases h19:op=19
   · rw [hc h19]
   · simp only [h19,if_false]
 · simp only [show ¬ (op=6∨op=7∨op=8∨op=10) by omega,show ¬ (op=9) by omega,show ¬ (op=11∨op=12) by omega,show ¬ (op=13∨op=14∨op=15∨op=16) by omega,show ¬ (op=17∨op=18) by omega,show ¬ (op=19) by omega,if_false]
section
variable [Gl]
theorem kinds_at {ps:List PT}{ds:List DV}{e:Ex}:∀ {o:Nat},WfE e→At ps o e→∀ {n:Nat},o+e.len≤n→getK (kindsL ps ds n) ((o+e.len-1:Nat):Int)=kE ds e:=by
 induction e with
 | leaf p =>
  intro o hw h n hn;have h0:=h 0 (by simp [Ex.len])
  simp only [Ex.len] at hn ⊢;rw [show o+1-1=o by omega,getK_kindsL (x:=p) (by omega) (by rw [Nat.add_zero] at h0; rw [h0]; rfl)]
  exact kd_leaf hw _ _
 | one op a q ih =>
  intro o hw h n hn;obtain ⟨h1,h2⟩:=h.one;have ap:=a.pos;simp only [Ex.len] at hn ⊢;rw [show o+(a.len+1)-1=o+a.len by omega,getK_kindsL (by omega) h2]
  exact kd_nod (by have:=hw.1; omega) (ih hw.2 h1 (Nat.le_refl _)) (fun h=>by have:=hw.1; omega) (fun h=>by have:=hw.1; omega)
 | two op a b q ih1 ih2 =>
  intro o hw h n hn;obtain ⟨h1,h2,h3⟩:=h.two;have ap:=a.pos;have bp:=b.pos;simp only [Ex.len] at hn ⊢;rw [show o+(a.len+b.len+1)-1=o+a.len+b.len by omega,getK_kindsL (by omega) h3]
  exact kd_nod (by have:=hw.1; omega) (ih1 hw.2.1 h1 (by omega)) (fun _=>ih2 hw.2.2 h2 (Nat.le_refl _)) (fun h=>by have:=hw.1; omega)
 | tri a b c q ih1 ih2 ih3 =>
  intro o hw h n hn;obtain ⟨h1,h2,h3,h4⟩:=h.tri;have ap:=a.pos;have bp:=b.pos;have cp:=c.pos;simp only [Ex.len] at hn ⊢;rw [show o+(a.len+b.len+c.len+1)-1=o+a.len+b.len+c.len by omega,getK_kindsL (by omega) h4]
  exact kd_nod (by omega) (ih1 hw.1 h1 (by omega)) (fun _=>ih2 hw.2.1 h2 (by omega)) (fun _=>ih3 hw.2.2 h3 (by omega))
theorem good_at {ps:List PT}{ds:List DV}{e:Ex}:∀ {o:Nat},WfE e→At ps o e→∀ {n:Nat},o+e.len≤n→((∀ i,o≤i→i<o+e.len→getK (kindsL ps ds n) i≠0)↔gE ds e=true):=by
 induction e with
 | leaf p =>
  intro o hw h n hn;have hk:=kinds_at (ds:=ds) (e:=.leaf p) hw h hn;simp only [Ex.len] at hn hk;rw [show o+1-1=o by omega] at hk
  simp only [gE,Bool.not_eq_true',decide_eq_false_iff_not,Ex.len];constructor
  · intro q; rw [←hk]; exact q o (by omega) (by omega)
  · intro q i h1 h2; obtain rfl:i=o:=by omega
    rw [hk]; exact q
 | one op a q ih =>
  intro o hw h n hn;have hk:=kinds_at (ds:=ds) hw h hn;obtain ⟨h1,h2⟩:=h.one;have ap:=a.pos;simp only [Ex.len] at hn hk ⊢;rw [show o+(a.len+1)-1=o+a.len by omega] at hk
  have q1:=ih hw.2 h1 (n:=n) (by omega)
  simp only [gE,Bool.and_eq_true,Bool.not_eq_true',decide_eq_false_iff_not,←q1,←hk];constructor
  · intro q; exact ⟨fun i a1 a2=>q i a1 (by omega),q _ (by omega) (by omega)⟩
  · rintro ⟨q2,q3⟩ i a1 a2
    by_cases e:i=o+a.len
    · rw [e]; exact q3
    · exact q2 i a1 (by omega)
 | two op a b q ih1 ih2 =>
  intro o hw h n hn;have hk:=kinds_at (ds:=ds) hw h hn;obtain ⟨h1,h2,h3⟩:=h.two;have ap:=a.pos;have bp:=b.pos;simp only [Ex.len] at hn hk ⊢;rw [show o+(a.len+b.len+1)-1=o+a.len+b.len by omega] at hk
  have q1:=ih1 hw.2.1 h1 (n:=n) (by omega)
  have q2:=ih2 hw.2.2 h2 (n:=n) (by omega)
  simp only [gE,Bool.and_eq_true,Bool.not_eq_true',decide_eq_false_iff_not,←q1,←q2,←hk];constructor
  · intro q; exact ⟨⟨fun i a1 a2=>q i a1 (by omega),fun i a1 a2=>q i (by omega) (by omega)⟩,q _ (by omega) (by omega)⟩
  · rintro ⟨⟨q2,q3⟩,q4⟩ i a1 a2
    by_cases e:i=o+a.len+b.len
    · rw [e]; exact q4
    · by_cases e2:i<o+a.len
      · exact q2 i a1 e2
      · exact q3 i (by omega) (by omega)
 | tri a b c q ih1 ih2 ih3 =>
  intro o hw h n hn;have hk:=kinds_at (ds:=ds) hw h hn;obtain ⟨h1,h2,h3,h4⟩:=h.tri;have ap:=a.pos;have bp:=b.pos;have cp:=c.pos;simp only [Ex.len] at hn hk ⊢;rw [show o+(a.len+b.len+c.len+1)-1=o+a.len+b.len+c.len by omega] at hk
  have q1:=ih1 hw.1 h1 (n:=n) (by omega)
  have q2:=ih2 hw.2.1 h2 (n:=n) (by omega)
  have q3:=ih3 hw.2.2 h3 (n:=n) (by omega)
  simp only [gE,Bool.and_eq_true,Bool.not_eq_true',decide_eq_false_iff_not,←q1,←q2,←q3,←hk];constructor
  · intro q; exact ⟨⟨⟨fun i a1 a2=>q i a1 (by omega),fun i a1 a2=>q i (by omega) (by omega)⟩,fun i a1 a2=>q i (by omega) (by omega)⟩,q _ (by omega) (by omega)⟩
  · rintro ⟨⟨⟨q2,q3⟩,q4⟩,q5⟩ i a1 a2
    by_cases e:i=o+a.len+b.len+c.len
    · rw [e]; exact q5
    · by_cases e2:i<o+a.len
      · exact q2 i a1 e2
      · by_cases e3:i<o+a.len+b.len
        · exact q3 i (by omega) e3
        · exact q4 i (by omega) (by omega)
end
theorem ev_leaf {p:PT}{vl:List WV}(hp:p.k=1∨p.k=2)(K K':Int→V3 × Int):evB K vl p=evB K' vl p:=by
 unfold evB;rcases hp with h|h<;>simp [h]
theorem ev_nod {vl:List WV}{op a b c q a' b' c' q':Int}{K K':Int→V3 × Int}(h3:3≤op)(ha:K a=K' a')(hb:6≤op→K b=K' b')(hc:op=19→K c=K' c'):evB K vl (nod op a b c q)=evB K' vl (nod op a' b' c' q'):=by
 unfold evB nod;simp only [show ¬ (op=1) by omega,show ¬ (op=2) by omega,if_false,ha]
 by_cases h6:6≤op
 · rw [hb h6]
   by_cases h19:op=19
   · rw [hc h19]
   · simp only [h19,if_false]
 · simp only [show (op=3∨op=4∨op=5) by omega,if_true]
theorem ev_at {ps:List PT}{vl:List WV}{e:Ex}:∀ {o:Nat},WfE e→At ps o e→∀ {f:Nat},e.len≤f→evF ps vl f ((o+e.len-1:Nat):Int)=evE vl e:=by
 induction e with
 | leaf p =>
  intro o hw h f hf;have h0:=h 0 (by simp [Ex.len])
  simp only [Ex.len] at hf ⊢;obtain ⟨f,rfl⟩:∃ g,f=g+1:=⟨f-1,by omega⟩
  rw [show o+1-1=o by omega,evF_at (x:=p) (by rw [Nat.add_zero] at h0; rw [h0]; rfl)]
  exact ev_leaf hw _ _
 | one op a q ih =>
  intro o hw h f hf;obtain ⟨h1,h2⟩:=h.one;have ap:=a.pos;simp only [Ex.len] at hf ⊢;obtain ⟨f,rfl⟩:∃ g,f=g+1:=⟨f-1,by omega⟩
  rw [show o+(a.len+1)-1=o+a.len by omega,evF_at h2]
  exact ev_nod (by have:=hw.1; omega) (ih hw.2 h1 (by omega)) (fun h=>by have:=hw.1; omega) (fun h=>by have:=hw.1; omega)
 | two op a b q ih1 ih2 =>
  intro o hw h f hf;obtain ⟨h1,h2,h3⟩:=h.two;have ap:=a.pos;have bp:=b.pos;simp only [Ex.len] at hf ⊢;obtain ⟨f,rfl⟩:∃ g,f=g+1:=⟨f-1,by omega⟩
  rw [show o+(a.len+b.len+1)-1=o+a.len+b.len by omega,evF_at h3]
  exact ev_nod (by have:=hw.1; omega) (ih1 hw.2.1 h1 (by omega)) (fun _=>ih2 hw.2.2 h2 (by omega)) (fun h=>by have:=hw.1; omega)
 | tri a b c q ih1 ih2 ih3 =>
  intro o hw h f hf;obtain ⟨h1,h2,h3,h4⟩:=h.tri;have ap:=a.pos;have bp:=b.pos;have cp:=c.pos;simp only [Ex.len] at hf ⊢;obtain ⟨f,rfl⟩:∃ g,f=g+1:=⟨f-1,by omega⟩
  rw [show o+(a.len+b.len+c.len+1)-1=o+a.len+b.len+c.len by omega,evF_at h4]
  exact ev_nod (by omega) (ih1 hw.1 h1 (by omega)) (fun _=>ih2 hw.2.1 h2 (by omega)) (fun _=>ih3 hw.2.2 h3 (by omega))
theorem wf_fl {e:Ex}:∀ {X:List PT},WfE e→WF X→WF (X++e.fl X.length):=by
 induction e with
 | leaf p =>
  intro X hw hX;refine hX.add fun j hj=>?_
  have:usesS p=[]:=by unfold usesS; rcases hw with h|h<;>simp [h]
  rw [this] at hj; cases hj
 | one op a q ih =>
  intro X hw hX;have q1:=ih hw.2 hX;have ap:=a.pos;rw [Ex.fl,←List.append_assoc];refine q1.add fun j hj=>?_
  rw [uses1 hw.1 j hj];simp only [List.length_append,fl_len];omega
 | two op a b q ih1 ih2 =>
  intro X hw hX;have q1:=ih1 hw.2.1 hX;have q2:=ih2 hw.2.2 q1;have ap:=a.pos;have bp:=b.pos;simp only [List.length_append,fl_len,List.append_assoc] at q2;have q4:WF (X++a.fl X.length++b.fl (X.length+a.len)):=by simpa only [List.append_assoc] using q2
  have e1:X++(Ex.two op a b q).fl X.length=(X++a.fl X.length++b.fl (X.length+a.len)) ++ [nod op ((X.length+a.len-1:Nat):Int) ((X.length+a.len+b.len-1:Nat):Int) 0 q]:=by
   simp only [Ex.fl,List.append_assoc]
  rw [e1];refine q4.add fun j hj=>?_
  simp only [List.length_append,fl_len];rcases uses2 hw.1.1 hw.1.2 j hj with e|e<;>rw [e]<;>omega
 | tri a b c q ih1 ih2 ih3 =>
  intro X hw hX;have q1:=ih1 hw.1 hX;have q2:=ih2 hw.2.1 q1;have q3:=ih3 hw.2.2 q2;have ap:=a.pos;have bp:=b.pos;have cp:=c.pos;simp only [List.length_append,fl_len,List.append_assoc] at q3;have q4:WF (X++a.fl X.length++b.fl (X.length+a.len)++c.fl (X.length+a.len+b.len)):=by simpa only [List.append_assoc,Nat.add_assoc] using q3
  have e1:X++(Ex.tri a b c q).fl X.length=(X++a.fl X.length++b.fl (X.length+a.len)++c.fl (X.length+a.len+b.len)) ++ [nod 19 ((X.length+a.len-1:Nat):Int) ((X.length+a.len+b.len-1:Nat):Int) ((X.length+a.len+b.len+c.len-1:Nat):Int) q]:=by
   simp only [Ex.fl,List.append_assoc]
  rw [e1];refine q4.add fun j hj=>?_
  simp only [List.length_append,fl_len];rcases uses3 j hj with e|e|e<;>rw [e]<;>omega
theorem wf_fl0 {e:Ex}(h:WfE e):WF (e.fl 0):=wf_fl (X:=[]) h fun i x hx=>by cases hx
theorem uses1' {op a p:Int}(h:op=3∨op=4∨op=5):usesS (nod op a 0 0 p)=[a]:=by
 unfold usesS nod; rcases h with rfl|rfl|rfl<;>rfl
theorem uses2' {op a b p:Int}(h:6≤op∧op≤18):usesS (nod op a b 0 p)=[a,b]:=by
 unfold usesS nod; simp only; rw [if_neg (by omega),if_pos h]
theorem uses3' {a b c p:Int}:usesS (nod 19 a b c p)=[a,b,c]:=rfl
theorem cnt1 (a j:Int):[a].count j=if a=j then 1 else 0:=by
 by_cases h:a=j<;>simp [h]
theorem ite01 {p:Prop} [Decidable p]{x:Nat}(h:x=if p then 1 else 0):(p∧x=1)∨(¬ p∧x=0):=by
 by_cases hp:p
 · rw [if_pos hp] at h; exact .inl ⟨hp,h⟩
 · rw [if_neg hp] at h; exact .inr ⟨hp,h⟩
theorem count_fl {e:Ex}:∀ (o:Nat) (j:Int),WfE e→((e.fl o).flatMap usesS).count j=if (o:Int)≤j∧j<o+e.len-1 then 1 else 0:=by
 induction e with
 | leaf p =>
  intro o j hw;have:usesS p=[]:=by unfold usesS; rcases hw with h|h<;>simp [h]
  rw [Ex.fl,List.flatMap_cons,this,List.flatMap_nil,if_neg (by simp [Ex.len])]
  rfl
 | one op a q ih =>
  intro o j hw;have ap:=a.pos;rw [Ex.fl,List.flatMap_append,List.flatMap_cons,uses1' hw.1,List.flatMap_nil,List.append_nil,List.count_append,ih o j hw.2,cnt1];have hl:((Ex.one op a q).len:Int)=a.len+1:=by simp [Ex.len]
  by_cases c1:(o:Int)≤j<;>by_cases c2:j<o+a.len-1<;>by_cases c3:((o+a.len-1:Nat):Int)=j<;>by_cases c4:j<o+(Ex.one op a q).len-1<;>simp only [c1,c2,c3,c4,true_and,and_true,and_false,false_and,if_true,if_false]<;>omega
 | two op a b q ih1 ih2 =>
  intro o j hw;have ap:=a.pos;have bp:=b.pos;rw [Ex.fl,List.flatMap_append,List.flatMap_append,List.flatMap_cons,uses2' hw.1,List.flatMap_nil,List.append_nil,List.count_append,List.count_append,ih1 o j hw.2.1,ih2 (o+a.len) j hw.2.2,
   show ∀ x y:Int,[x,y]=[x] ++ [y] from fun _ _=>rfl,List.count_append,cnt1,cnt1]
  have hl:((Ex.two op a b q).len:Int)=a.len+b.len+1:=by simp [Ex.len]
  by_cases c1:(o:Int)≤j<;>by_cases c2:j<o+a.len-1<;>by_cases c3:((o+a.len-1:Nat):Int)=j<;>by_cases c4:j<o+(Ex.two op a b q).len-1<;>by_cases c5:((o+a.len:Nat):Int)≤j<;>by_cases c6:j<(o+a.len:Nat)+b.len-1<;>by_cases c7:((o+a.len+b.len-1:Nat):Int)=j<;>simp only [c1,c2,c3,c4,c5,c6,c7,true_and,and_true,and_false,false_and,if_true,if_false]<;>omega
 | tri a b c q ih1 ih2 ih3 =>
  intro o j hw;have ap:=a.pos;have bp:=b.pos;have cp:=c.pos;have hl:((Ex.tri a b c q).len:Int)=a.len+b.len+c.len+1:=by simp [Ex.len]
  have k1:=ih1 o j hw.1;have k2:=ih2 (o+a.len) j hw.2.1;have k3:=ih3 (o+a.len+b.len) j hw.2.2;rw [Ex.fl,List.flatMap_append,List.flatMap_append,List.flatMap_append,List.flatMap_cons,uses3',List.flatMap_nil,List.append_nil,List.count_append,List.count_append,List.count_append,
   show ∀ x y z:Int,[x,y,z]=[x]++([y] ++ [z]) from fun _ _ _=>rfl,List.count_append,List.count_append,cnt1,cnt1,cnt1]
  generalize ((a.fl o).flatMap usesS).count j=A at *;generalize ((b.fl (o+a.len)).flatMap usesS).count j=B at *;generalize ((c.fl (o+a.len+b.len)).flatMap usesS).count j=C at *;have h1:=ite01 k1;have h2:=ite01 k2;have h3:=ite01 k3;have h4:=ite01 (rfl:_=(if ((o+a.len-1:Nat):Int)=j then 1 else 0))
  have h5:=ite01 (rfl:_=(if ((o+a.len+b.len-1:Nat):Int)=j then 1 else 0))
  have h6:=ite01 (rfl:_=(if ((o+a.len+b.len+c.len-1:Nat):Int)=j then 1 else 0))
  have h7:=ite01 (rfl:_=(if (o:Int)≤j∧j<o+(Ex.tri a b c q).len-1 then 1 else 0))
  clear k1 k2 k3;generalize (if ((o+a.len-1:Nat):Int)=j then 1 else 0)=X1 at *
  generalize (if ((o+a.len+b.len-1:Nat):Int)=j then 1 else 0)=X2 at *
  generalize (if ((o+a.len+b.len+c.len-1:Nat):Int)=j then 1 else 0)=X3 at *
  generalize (if (o:Int)≤j∧j<o+(Ex.tri a b c q).len-1 then 1 else 0)=X4 at *
  omega
theorem bump_get {u:List Int}{j':Int}(h0:0≤j')(h1:j'<u.length)(j:Nat):getK (bump u j') j=getK u j+if j'=j then 1 else 0:=by
 unfold bump;by_cases e:j'.toNat=j
 · rw [if_pos (by omega)]
   subst e;rw [show ((j'.toNat:Nat):Int)=j' by omega]
   conv=>lhs; unfold getK
   rw [List.getElem?_set_self (by omega)]
   rfl
 · rw [if_neg (by omega)]
   unfold getK;rw [Int.toNat_natCast,List.getElem?_set_ne e,Int.add_zero]
theorem bumps_get:∀ (js:List Int) (u:List Int),(∀ j∈js,0≤j∧j<u.length)→∀ j:Nat,getK (js.foldl bump u) j=getK u j+(js.count (j:Int):Int)
 | [],u,_,j=>by simp
 | a::js,u,h,j=>by
  have ha:=h a List.mem_cons_self;rw [List.foldl_cons,bumps_get js (bump u a) (fun x hx=>by rw [bump_len]; exact h x (List.mem_cons_of_mem _ hx)) j,bump_get ha.1 ha.2 j,List.count_cons]
  by_cases e:a=j
  · simp [e]; omega
  · simp [e]
theorem used_get {ps:List PT}(h:∀ x∈ps,∀ j∈usesS x,0≤j∧j<ps.length):∀ n,n≤ps.length→∀ j:Nat,getK (usedL ps n) j=(((ps.take n).flatMap usesS).count (j:Int):Int)
 | 0,_,j=>by
  unfold usedL getK;rw [List.getElem?_replicate];split<;>simp
 | n+1,hn,j=>by
  have hx:ps[n]?=some (ps[n]'(by omega)):=List.getElem?_eq_getElem (by omega)
  rw [usedL_at hx,bumps_get _ _ (fun x hx'=>by rw [usedL_len]; exact h _ (List.getElem_mem _) x hx') j,used_get h n (by omega) j,List.take_add_one,hx,List.flatMap_append,List.count_append]
  simp
section
variable [Gl]
theorem kind_fl {e:Ex}{ds:List DV}(hw:WfE e)(hn:e.len≤256):kindS (e.fl 0) ds=if gE ds e=true then kE ds e else 0:=by
 have hl:=fl_len e 0;have ep:=e.pos;have hwf:=wf_fl0 hw;have hg:goodK (e.fl 0) ds (e.fl 0).length=gE ds e:=by
  have h1:=goodK_iff (ps:=e.fl 0) (ds:=ds) (Nat.le_refl _);have h2:=good_at (ds:=ds) hw (At.self e) (n:=(e.fl 0).length) (by rw [hl]; omega)
  have h3:goodK (e.fl 0) ds (e.fl 0).length=true↔gE ds e=true:=by
    rw [h1,←h2];constructor
    · rintro ⟨_,q⟩ i _ hi
      exact q i (by omega)
    · intro q
      refine ⟨fun k x hk hx=>?_,fun k hk=>q k (by omega) (by omega)⟩
      have:=hwf k x hx;unfold sidesB;rw [List.all_eq_true];intro j hj;simpa using this j hj
  exact Bool.eq_iff_iff.2 h3
 have ho:onesB ((usedL (e.fl 0) (e.fl 0).length).take ((e.fl 0).length-1))=true:=by
  refine (ones_iff (usedL_len _ _)).2 fun k hk=>?_
  rw [used_get (fun x hx j hj=>?_) _ (Nat.le_refl _),List.take_length,count_fl 0 k hw,if_pos ⟨by omega,by omega⟩]
  · rfl
  · obtain ⟨i,hi,rfl⟩:=List.getElem_of_mem hx
    have:=hwf i _ (List.getElem?_eq_getElem hi) j hj;omega
 unfold kindS;rw [if_neg (by omega),hg,ho]
 have hk:=kinds_at (ds:=ds) hw (At.self e) (n:=(e.fl 0).length) (by omega)
 rw [hl] at hk ⊢;rw [show ((e.len:Nat):Int)-1=((0+e.len-1:Nat):Int) by omega,hk]
 cases gE ds e<;>simp
end
def Lx (q:ByteArray)(p:Nat)(l:List Tk):Prop:=toks q p [] = .ok l
theorem lx_end {q:ByteArray}:Lx q q.size []:=by
 unfold Lx;rw [toks,if_pos (runTo_ge _ _ _)]
section
variable {q:ByteArray}{p:Nat}{b:UInt8}{R:List UInt8}{l:List Tk}
theorem lx_bl (hd:q.data.toList.drop p=32::R)(h:Lx q (p+1) l):Lx q p l:=by
 have hb:bt q (p+0)=_:=bt_at hd;have hs:=size_at hd (by simp)
 simp only [List.length_cons] at hs;refine toks_skip (n:=1) (by omega) (fun k hk=>?_) h
 obtain rfl:k=0:=by omega
 rw [hb]; rfl
theorem lx_mk {t:Tk}{j:Nat}(hd:q.data.toList.drop p=b::R)(hn:blankB b.toNat=false)(ht:tok1 q p = .ok (t,j))(h:Lx q j l):Lx q p (t::l):=by
 have hb:bt q (p+0)=_:=bt_at hd;rw [Nat.add_zero] at hb;have hs:=size_at hd (by simp)
 simp only [List.length_cons] at hs;have hr:runTo blankB q p=p:=runTo_stop (by rw [hb]; rintro ⟨_,h2⟩; simp [hn] at h2)
 exact toks_mk (by omega) (by rw [hr]; exact ht) h
theorem lx_one (hd:q.data.toList.drop p=b::R)(hb:b=40∨b=41∨b=63∨b=58)(h:Lx q (p+1) l):Lx q p (⟨4,⟨#[b]⟩,0,p⟩::l):=by
 have hbt:bt q (p+0)=_:=bt_at hd;rw [Nat.add_zero] at hbt;have hc:=cut_at (X:=[b]) (Y:=R) hd;have hbt':bt q p=b.toNat:=by rw [hbt]; rfl
 refine lx_mk hd (by rcases hb with rfl|rfl|rfl|rfl<;>rfl) ?_ h
 have hsg:signL q p=1:=by
  unfold signL;rw [hbt'];rcases hb with rfl|rfl|rfl|rfl<;>simp
 unfold tok1;rw [hsg,hbt',if_neg (by rcases hb with rfl|rfl|rfl|rfl<;>decide),if_neg (by rcases hb with rfl|rfl|rfl|rfl<;>decide),if_neg (by rcases hb with rfl|rfl|rfl|rfl<;>decide),if_neg (by decide),extract_cut (by omega)]
 simp only [List.length_cons,List.length_nil,Nat.zero_add] at hc;rw [hc]
theorem lx_not (hd:q.data.toList.drop p=33::40::R)(h:Lx q (p+1) l):Lx q p (⟨4,bNot,0,p⟩::l):=by
 have hbt:bt q (p+0)=_:=bt_at hd;have hbt2:bt q (p+1)=_:=bt_at hd;rw [Nat.add_zero] at hbt;have hc:=cut_at (X:=[33]) (Y:=40::R) hd;have e1:bt q p=33:=by rw [hbt]; rfl
 have e2:bt q (p+1)=40:=by rw [hbt2]; rfl
 refine lx_mk hd rfl ?_ h;have hsg:signL q p=1:=by
  unfold signL;rw [e1,e2];simp
 unfold tok1;rw [hsg,e1,if_neg (by decide),if_neg (by decide),if_neg (by decide),if_neg (by decide),extract_cut (by omega)]
 simp only [List.length_cons,List.length_nil,Nat.zero_add] at hc;rw [hc]; rfl
theorem lx_two (hd:q.data.toList.drop p=b::b::R)(hb:b=38∨b=124)(h:Lx q (p+2) l):Lx q p (⟨4,⟨#[b,b]⟩,0,p⟩::l):=by
 have hbt:bt q (p+0)=_:=bt_at hd;have hbt2:bt q (p+1)=_:=bt_at hd;rw [Nat.add_zero] at hbt;have hc:=cut_at (X:=[b,b]) (Y:=R) hd;have e1:bt q p=b.toNat:=by rw [hbt]; rfl
 have e2:bt q (p+1)=b.toNat:=by rw [hbt2]; rfl
 have hs:=size_at hd (by simp)
 simp only [List.length_cons] at hs;refine lx_mk hd (by rcases hb with rfl|rfl<;>rfl) ?_ h
 have hsg:signL q p=2:=by
  unfold signL;rw [e1,e2,if_pos];refine ⟨by omega,?_⟩
  rcases hb with rfl|rfl<;>simp
 unfold tok1;rw [hsg,e1,if_neg (by rcases hb with rfl|rfl<;>decide),if_neg (by rcases hb with rfl|rfl<;>decide),if_neg (by rcases hb with rfl|rfl<;>decide),if_neg (by decide),extract_cut (by omega)]
 simp only [List.length_cons,List.length_nil,Nat.zero_add] at hc;rw [show p+2=p+(1+1) from rfl,hc]
theorem lx_in {s:ByteArray}{m:List Tk}(hd:q.data.toList.drop p=s.data.toList++b::R)(hb:StopC b.toNat)(hs:toks s 0 [] = .ok l)(h:Lx q (p+s.size) m):Lx q p (l.map (fwT p)++m):=by
 have hl:=len_bytes s;have hz:=size_at hd (by simp)
 simp only [List.length_append,List.length_cons,hl] at hz;have hc:bt q (p+s.size)=b.toNat:=by
  rw [bt_at hd,List.getD_eq_getElem?_getD,List.getElem?_append_right (by omega),hl,Nat.sub_self]; rfl
 exact em_toks (s:=s) (q:=q) (p:=p) (R:=b::R) hd (by omega) (by rw [hc]; exact hb) s.size (i:=0) (by omega) (by omega) hs h
theorem bd_one (hd:q.data.toList.drop p=b::R)(hb:b.toNat<128):bad q p=bad q (p+1):=by
 have hbt:bt q (p+0)=_:=bt_at hd;rw [Nat.add_zero] at hbt;have hs:=size_at hd (by simp)
 simp only [List.length_cons] at hs;refine bad_asc 1 p (by omega) fun k hk=>?_
 obtain rfl:k=0:=by omega
 rw [Nat.add_zero,hbt]; exact hb
theorem bd_in {s:ByteArray}(hd:q.data.toList.drop p=s.data.toList++b::R)(hs:bad s 0 = -1):bad q p=bad q (p+s.size):=by
 have hl:=len_bytes s;have hz:=size_at hd (by simp)
 simp only [List.length_append,List.length_cons,hl] at hz;exact em_bad (s:=s) (q:=q) (p:=p) (R:=b::R) hd (by omega) (i:=0) (by omega) hs
theorem bd_end:bad q q.size = -1:=by rw [bad,if_pos (Nat.le_refl _)]
end
theorem txt_why {s:ByteArray}{fr i:Nat}{out:List UInt8}{a:Nat}{w:Int}(h:txt s fr i out = .error (a,w)):w=84∨w=121∨w=81:=by
 fun_induction txt s fr i out with
 | case1=>cases h; exact .inl rfl
 | case2=>cases h
 | case3=>cases h; exact .inl rfl
 | case4=>cases h; exact .inr (.inl rfl)
 | case5 i out h1 h2 h3 h4 h5 hc ih=>exact ih h
 | case6=>cases h; exact .inr (.inr rfl)
 | case7 i out h1 h2 h3 hc ih=>exact ih h
 | case8=>cases h; exact .inr (.inr rfl)
def LexW (w:Int):Prop:=w=3∨w=71∨w=84∨w=121∨w=81∨w=122
theorem tok1_why {s:ByteArray}{i a:Nat}{w:Int}(h:tok1 s i = .error (a,w)):LexW w:=by
 unfold LexW;unfold tok1 at h;split at h
 · split at h
   · cases h
   · cases h; simp
 split at h
 · cases h
 split at h
 · split at h
   · split at h
     · cases h; simp
     · cases h
   · rename_i f hf
     cases h;rcases txt_why hf with e|e|e<;>simp [e]
 split at h
 · cases h; simp
 · cases h
theorem toks_why {s:ByteArray}{i a:Nat}{l:List Tk}{w:Int}(h:toks s i l = .error (a,w)):LexW w:=by
 fun_induction toks s i l with
 | case1=>cases h
 | case2 i l h1 f hf=>cases h; exact tok1_why hf
 | case3 i l h1 t j ht h2 ih=>exact ih h
 | case4=>cases h
theorem lex_why (s:ByteArray):(lexS s).2.2=0∨LexW (lexS s).2.2:=by
 unfold lexS;split
 · exact .inr (.inl rfl)
 split
 · exact .inr (.inr (.inl rfl))
 split
 · exact .inl rfl
 · rename_i a w h; exact .inr (toks_why h)
theorem lex_ok {s:ByteArray}(h:(lexS s).2.2=0):s.size≤256∧bad s 0 = -1∧toks s 0 [] = .ok (lexS s).1:=by
 unfold lexS at h ⊢;split at h
 · cases h
 rename_i h1;rw [if_neg h1];split at h
 · cases h
 rename_i h2;rw [if_neg h2];have hb:bad s 0 = -1:=by
   rcases bad_ge' s 0 with h|h
   · exact h
   · exact absurd h h2
 split at h
 · rename_i l hl
   rw [hl];exact ⟨by omega,hb,rfl⟩
 · rename_i a w hl
   simp only at h;subst h;rcases toks_why hl with e|e|e|e|e|e<;>cases e
theorem lex_mk {s:ByteArray}{l:List Tk}(h1:s.size≤256)(h2:bad s 0 = -1)(h3:Lx s 0 l):lexS s=(l,0,0):=by
 unfold lexS;rw [if_neg (by omega),if_neg (by omega),h3]
def q2 (b:UInt8)(s t:ByteArray):ByteArray:=⟨#[40]⟩++s ++ ⟨#[41,32,b,b,32,40]⟩++t ++ ⟨#[41]⟩
def q3 (s t:ByteArray):ByteArray:=⟨#[40]⟩++s ++ ⟨#[41,32,63,32,40]⟩++t ++ ⟨#[41,32,58,32,33,40]⟩++s ++ ⟨#[41]⟩
def isT4 (t:Tk)(x:ByteArray):Prop:=t.kind=4∧t.text=x
theorem isT4.sg {t:Tk}{x:ByteArray}(h:isT4 t x)(ts:List Tk):sg (t::ts)=x:=by
 show (if 3≤t.kind then t.text else noText)=x
 rw [h.1,h.2]; rfl
theorem bd_end' {q:ByteArray}{p:Nat}(h:p=q.size):bad q p = -1:=h ▸ bd_end
theorem lx_end' {q:ByteArray}{p:Nat}(h:p=q.size):Lx q p []:=h ▸ lx_end
theorem stop41:StopC (41:UInt8).toNat:=⟨by decide,by decide,by decide,by decide,by decide,by decide⟩
theorem lex_q2 {b:UInt8}{s t:ByteArray}(hb:b=38∨b=124)(hs:(lexS s).2.2=0)(ht:(lexS t).2.2=0)(hz:s.size+t.size≤248) :
  ∃ (o c op o2 c2:Tk) (u v:Int),lexS (q2 b s t)=(o::((lexS s).1.map (fwT u)++c::op::o2::((lexS t).1.map (fwT v) ++ [c2])),0,0)∧isT4 o bOpen∧isT4 c bClose∧isT4 op ⟨#[b,b]⟩∧isT4 o2 bOpen∧isT4 c2 bClose:=by
 obtain ⟨s1,s2,s3⟩:=lex_ok hs;obtain ⟨t1,t2,t3⟩:=lex_ok ht;have d0:(q2 b s t).data.toList.drop 0=40::(s.data.toList++(41::32::b::b::32::40::(t.data.toList ++ [41]))):=by simp [q2]
 have hsz:=size_at d0 (by simp)
 simp only [List.length_cons,List.length_append,List.length_nil,len_bytes] at hsz;generalize q2 b s t=q at *;have d1:=drop_at (X:=[40]) d0;have d2:=drop_at (X:=s.data.toList) d1;have d3:=drop_at (X:=[41]) d2;have d4:=drop_at (X:=[32]) d3;have d5:=drop_at (X:=[b,b]) d4;have d6:=drop_at (X:=[32]) d5;have d7:=drop_at (X:=[40]) d6;have d8:=drop_at (X:=t.data.toList) d7;have hl:=len_bytes s;have hl2:=len_bytes t;rw [hl] at d2 d3 d4 d5 d6 d7 d8;rw [hl2] at d8;have hb0:bad q 0 = -1:=by
  rw [bd_one d0 (by decide)]
  refine (bd_in d1 s2).trans ((bd_one d2 (by decide)).trans ((bd_one d3 (by decide)).trans ?_))
  refine (bd_one (R:=b::32::40::(t.data.toList ++ [41])) d4 (by rcases hb with rfl|rfl<;>decide)).trans ?_
  have d4':=drop_at (X:=[b]) (Y:=b::32::40::(t.data.toList ++ [41])) d4;refine (bd_one d4' (by rcases hb with rfl|rfl<;>decide)).trans ((bd_one d5 (by decide)).trans ((bd_one d6 (by decide)).trans ((bd_in d7 t2).trans ((bd_one d8 (by decide)).trans ?_))))
  exact bd_end' (by simp only [List.length_cons,List.length_nil]; omega)
 have hL:Lx q 0 _:=lx_one d0 (.inl rfl) (lx_in d1 stop41 s3 (lx_one d2 (.inr (.inl rfl)) (lx_bl d3 (lx_two d4 hb (lx_bl d5 (lx_one d6 (.inl rfl) (lx_in d7 stop41 t3 (lx_one d8 (.inr (.inl rfl)) (lx_end' (by omega))))))))))
 exact ⟨_,_,_,_,_,_,_,lex_mk (by omega) hb0 hL,⟨rfl,rfl⟩,⟨rfl,rfl⟩,⟨rfl,rfl⟩,⟨rfl,rfl⟩,⟨rfl,rfl⟩⟩
theorem lex_q3 {s t:ByteArray}(hs:(lexS s).2.2=0)(ht:(lexS t).2.2=0)(hz:s.size+t.size+s.size≤240) :
  ∃ (o c op o2 c2 cl no o3 c3:Tk) (u v w:Int),lexS (q3 s t)=(o::((lexS s).1.map (fwT u)++c::op::o2::((lexS t).1.map (fwT v)++c2::cl::no::o3::((lexS s).1.map (fwT w) ++ [c3]))),0,0)∧isT4 o bOpen∧isT4 c bClose∧isT4 op bAsk∧isT4 o2 bOpen∧isT4 c2 bClose ∧
   isT4 cl bColon∧isT4 no bNot∧isT4 o3 bOpen∧isT4 c3 bClose:=by
 obtain ⟨s1,s2,s3⟩:=lex_ok hs;obtain ⟨t1,t2,t3⟩:=lex_ok ht;have d0:(q3 s t).data.toList.drop 0=40::(s.data.toList++(41::32::63::32::40::(t.data.toList++(41::32::58::32::33::40::(s.data.toList ++ [41]))))):=by simp [q3]
 have hsz:=size_at d0 (by simp)
 simp only [List.length_cons,List.length_append,List.length_nil,len_bytes] at hsz;generalize q3 s t=q at *;have d1:=drop_at (X:=[40]) d0;have d2:=drop_at (X:=s.data.toList) d1;have d3:=drop_at (X:=[41]) d2;have d4:=drop_at (X:=[32]) d3;have d5:=drop_at (X:=[63]) d4;have d6:=drop_at (X:=[32]) d5;have d7:=drop_at (X:=[40]) d6;have d8:=drop_at (X:=t.data.toList) d7;have d9:=drop_at (X:=[41]) d8;have d10:=drop_at (X:=[32]) d9;have d11:=drop_at (X:=[58]) d10;have d12:=drop_at (X:=[32]) d11;have d13:=drop_at (X:=[33]) d12;have d14:=drop_at (X:=[40]) d13;have d15:=drop_at (X:=s.data.toList) d14;have hl:=len_bytes s;have hl2:=len_bytes t;rw [hl] at d2 d3 d4 d5 d6 d7 d8 d9 d10 d11 d12 d13 d14 d15;rw [hl2] at d8 d9 d10 d11 d12 d13 d14 d15;have hb0:bad q 0 = -1:=by
  rw [bd_one d0 (by decide)]
  refine (bd_in d1 s2).trans ((bd_one d2 (by decide)).trans ((bd_one d3 (by decide)).trans ((bd_one d4 (by decide)).trans ((bd_one d5 (by decide)).trans ((bd_one d6 (by decide)).trans ((bd_in d7 t2).trans ((bd_one d8 (by decide)).trans ?_)))))))
  refine (bd_one d9 (by decide)).trans ((bd_one d10 (by decide)).trans ((bd_one d11 (by decide)).trans ((bd_one d12 (by decide)).trans ((bd_one d13 (by decide)).trans ((bd_in d14 s2).trans ((bd_one d15 (by decide)).trans ?_))))))
  exact bd_end' (by simp only [List.length_cons,List.length_nil]; omega)
 have hL:Lx q 0 _:=lx_one d0 (.inl rfl) (lx_in d1 stop41 s3 (lx_one d2 (.inr (.inl rfl)) (lx_bl d3 (lx_one d4 (.inr (.inr (.inl rfl))) (lx_bl d5 (lx_one d6 (.inl rfl) (lx_in d7 stop41 t3 (lx_one d8 (.inr (.inl rfl)) (lx_bl d9 (lx_one d10 (.inr (.inr (.inr rfl))) (lx_bl d11 (lx_not d12 (lx_one d13 (.inl rfl) (lx_in d14 stop41 s3 (lx_one d15 (.inr (.inl rfl)) (lx_end' (by omega)))))))))))))))))
 exact ⟨_,_,_,_,_,_,_,_,_,_,_,_,lex_mk (by omega) hb0 hL,⟨rfl,rfl⟩,⟨rfl,rfl⟩,⟨rfl,rfl⟩,⟨rfl,rfl⟩,⟨rfl,rfl⟩,⟨rfl,rfl⟩,⟨rfl,rfl⟩,⟨rfl,rfl⟩,⟨rfl,rfl⟩⟩
section
variable {o c op o2 c2 cl no o3 c3:Tk}{u v w:Int}{l1 l2:List Tk}{k1 k2:Nat}{e1 e2:Ex}(ho:isT4 o bOpen)(hc:isT4 c bClose)(ho2:isT4 o2 bOpen)(hc2:isT4 c2 bClose)(h1:Tr (.lv 6) l1 k1 e1 [])(h2:Tr (.lv 6) l2 k2 e2 [])
theorem tr_in (ho:isT4 o bOpen)(hc:isT4 c bClose)(h1:Tr (.lv 6) l1 k1 e1 [])(u:Int)(X:List Tk):Tr (.lv 0) (o::(l1.map (fwT u)++c::X)) (k1+1) (e1.fwd u) X :=
 tr_brk (ho.sg _) ho.1 (hc.sg _) (tr_fwd u h1)
theorem opA_38 (l:Nat):opA l ⟨#[38,38]⟩=if 4=l then some 11 else none:=by
 unfold opA;rw [show sgn.findIdx? (fun y=>decide (y=⟨#[38,38]⟩))=some 11 by decide]; rfl
theorem opA_124 (l:Nat):opA l ⟨#[124,124]⟩=if 5=l then some 12 else none:=by
 unfold opA;rw [show sgn.findIdx? (fun y=>decide (y=⟨#[124,124]⟩))=some 12 by decide]; rfl
theorem opA_ask (l:Nat):opA l bAsk=none:=by
 unfold opA;rw [show sgn.findIdx? (fun y=>decide (y=bAsk))=none by decide]
theorem opA_colon (l:Nat):opA l bColon=none:=by
 unfold opA;rw [show sgn.findIdx? (fun y=>decide (y=bColon))=none by decide]
include ho hc ho2 hc2 h1 h2
theorem tr_and (hop:isT4 op ⟨#[38,38]⟩):∃ k,Tr (.lv 6) (o::(l1.map (fwT u)++c::op::o2::(l2.map (fwT v) ++ [c2]))) k (.two 17 (e1.fwd u) (e2.fwd v) op.pos) []:=by
 have a:=tr_lift (tr_in ho hc h1 u (op::o2::(l2.map (fwT v) ++ [c2]))) 3 (by omega) fun l h1 h2=>by rw [hop.sg,opA_38,if_neg (by omega)]
 have b:=tr_lift (tr_in ho2 hc2 h2 v []) 3 (by omega) fun l h1 h2=>opA_no
 have q:=Tr.lv (m:=3) (by omega) a (.ch (by omega) (by rw [hop.sg,opA_38]; rfl) b (.ce (.inr opA_no)))
 have q5:=Tr.lv (m:=4) (by omega) q (.ce (.inr opA_no))
 exact ⟨_,.fno q5 (by decide)⟩
theorem tr_or (hop:isT4 op ⟨#[124,124]⟩):∃ k,Tr (.lv 6) (o::(l1.map (fwT u)++c::op::o2::(l2.map (fwT v) ++ [c2]))) k (.two 18 (e1.fwd u) (e2.fwd v) op.pos) []:=by
 have a:=tr_lift (tr_in ho hc h1 u (op::o2::(l2.map (fwT v) ++ [c2]))) 4 (by omega) fun l h1 h2=>by rw [hop.sg,opA_124,if_neg (by omega)]
 have b:=tr_lift (tr_in ho2 hc2 h2 v []) 4 (by omega) fun l h1 h2=>opA_no
 have q:=Tr.lv (m:=4) (by omega) a (.ch (by omega) (by rw [hop.sg,opA_124]; rfl) b (.ce (.inr opA_no)))
 exact ⟨_,.fno q (by decide)⟩
theorem tr_ask (hop:isT4 op bAsk)(hcl:isT4 cl bColon)(hno:isT4 no bNot)(ho3:isT4 o3 bOpen)(hc3:isT4 c3 bClose) :
  ∃ k,Tr (.lv 6) (o::(l1.map (fwT u)++c::op::o2::(l2.map (fwT v)++c2::cl::no::o3::(l1.map (fwT w) ++ [c3])))) k (.tri (e1.fwd u) (e2.fwd v) (.one 4 (e1.fwd w) no.pos) op.pos) []:=by
 have a:=tr_lift (tr_in ho hc h1 u (op::o2::(l2.map (fwT v)++c2::cl::no::o3::(l1.map (fwT w) ++ [c3])))) 5 (by omega) fun l h1 h2=>by rw [hop.sg,opA_ask]
 have b:=tr_lift6 (tr_in ho2 hc2 h2 v (cl::no::o3::(l1.map (fwT w) ++ [c3]))) (fun l h1 h2=>by rw [hcl.sg,opA_colon]) (by rw [hcl.sg]; decide)
 have d:=tr_lift6 (Tr.un (t:=no) (op:=4) (by rw [hno.sg]; decide) (tr_in ho3 hc3 h1 w [])) (fun l h1 h2=>opA_no) (by decide)
 exact ⟨_,.fo a (hop.sg _) b (hcl.sg _) d⟩
end
theorem kE_fwd (ds:List DV)(u:Int)(e:Ex):kE ds (e.fwd u)=kE ds e:=by
 induction e with
 | leaf p=>rfl
 | one op a q ih=>simp only [Ex.fwd,kE,ih]
 | two op a b q ih1 ih2=>simp only [Ex.fwd,kE,ih1,ih2]
 | tri a b c q ih1 ih2 ih3=>simp only [Ex.fwd,kE,ih1,ih2,ih3]
theorem gE_fwd (ds:List DV)(u:Int)(e:Ex):gE ds (e.fwd u)=gE ds e:=by
 induction e with
 | leaf p=>rfl
 | one op a q ih=>simp only [Ex.fwd,gE,kE,kE_fwd,ih]; rfl
 | two op a b q ih1 ih2=>simp only [Ex.fwd,gE,kE,kE_fwd,ih1,ih2]; rfl
 | tri a b c q ih1 ih2 ih3=>simp only [Ex.fwd,gE,kE,kE_fwd,ih1,ih2,ih3]; rfl
theorem evE_fwd (vl:List WV)(u:Int)(e:Ex):evE vl (e.fwd u)=evE vl e:=by
 induction e with
 | leaf p=>rfl
 | one op a q ih=>simp only [Ex.fwd,evE,ih]
 | two op a b q ih1 ih2=>simp only [Ex.fwd,evE,ih1,ih2]
 | tri a b c q ih1 ih2 ih3=>simp only [Ex.fwd,evE,ih1,ih2,ih3]
theorem ev_two {vl:List WV}{a b:Ex}{q:Int}:evE vl (.two 17 a b q)=(if (evE vl a).2≠0 then (z3,(evE vl a).2) else if (evE vl a).1.2.1=1 then evE vl b else ((evE vl a).1,0)) ∧
  evE vl (.two 18 a b q)=(if (evE vl a).2≠0 then (z3,(evE vl a).2) else if (evE vl a).1.2.1=1 then ((evE vl a).1,0) else evE vl b):=by
 constructor<;>simp [evE,evB,nod]
theorem ev_tri {vl:List WV}{a b c:Ex}{q:Int}:evE vl (.tri a b c q)=(if (evE vl a).2≠0 then (z3,(evE vl a).2) else if (evE vl a).1.2.1=1 then evE vl b else evE vl c):=by
 simp [evE,evB,nod]
theorem ev_not {vl:List WV}{a:Ex}{q:Int}:evE vl (.one 4 a q)=(if (evE vl a).2≠0 then (z3,(evE vl a).2) else ((2,if (evE vl a).1.2.1=0 then 1 else 0,⟨#[]⟩),0)):=by
 simp [evE,evB,nod,oneV]
def EvW (w:Int):Prop:=w=0∨w=3∨w=141∨w=142
theorem two_w (k:Int)(x y:V3):EvW (twoV k x y).2:=by
 unfold EvW twoV
 repeat' split
 all_goals simp
theorem one_w (k n:Int)(s:ByteArray):EvW (oneV k n s).2:=by
 unfold EvW oneV
 repeat' split
 all_goals simp
theorem evB_w {r:Int→V3 × Int}{vl:List WV}{x:PT}(h:∀ j,EvW (r j).2):EvW (evB r vl x).2:=by
 unfold evB
 repeat' split
 all_goals first|exact .inl rfl|exact h _|exact two_w _ _ _|exact one_w _ _ _
theorem ev_w (vl:List WV)(e:Ex):EvW (evE vl e).2:=by
 induction e with
 | leaf p=>exact evB_w fun _=>.inl rfl
 | one op a q ih=>exact evB_w fun _=>ih
 | two op a b q ih1 ih2=>exact evB_w fun j=>by split<;>assumption
 | tri a b c q ih1 ih2 ih3 =>
  exact evB_w fun j=>by
   split
   · exact ih1
   · split
     · exact ih2
     · exact ih3
theorem kd_two {ds:List DV}{a b:Ex}{q:Int}(ha:kE ds a=2)(hb:kE ds b=2):kE ds (.two 17 a b q)=2∧kE ds (.two 18 a b q)=2:=by
 constructor<;>simp [kE,kdS,nod,ha,hb]
theorem kd_not {ds:List DV}{a:Ex}{q:Int}(ha:kE ds a=2):kE ds (.one 4 a q)=2:=by
 simp [kE,kdS,nod,ha]
theorem kd_tri {ds:List DV}{a b c:Ex}{q:Int}(ha:kE ds a=2)(hb:kE ds b=2)(hc:kE ds c=2):kE ds (.tri a b c q)=2:=by
 simp [kE,kdS,nod,ha,hb,hc]
section
variable [Gl]
theorem good_fl {e:Ex}{ds:List DV}(hw:WfE e):goodK (e.fl 0) ds (e.fl 0).length=gE ds e:=by
 have hl:=fl_len e 0;have hwf:=wf_fl0 hw;have h1:=goodK_iff (ps:=e.fl 0) (ds:=ds) (Nat.le_refl _);have h2:=good_at (ds:=ds) hw (At.self e) (n:=(e.fl 0).length) (by rw [hl]; omega)
 refine Bool.eq_iff_iff.2 ?_;rw [h1,←h2];constructor
 · rintro ⟨_,q⟩ i _ hi
   exact q i (by omega)
 · intro q
   refine ⟨fun k x hk hx=>?_,fun k hk=>q k (by omega) (by omega)⟩
   have:=hwf k x hx;unfold sidesB;rw [List.all_eq_true];intro j hj;simpa using this j hj
def hldW (ps:List PT)(w:Int)(vl:List WV):Bool × Int:=if varsB vl=false then (false,2) else (eqI (fndV ps w vl 2).1.2.1 1,(fndV ps w vl 2).2)
theorem fnd_fl {e:Ex}{vl:List WV}(hv:varsB vl=true)(hw:WfE e)(hn:e.len≤256)(hg:gE (vl.map dcl) e=true)(hk:kE (vl.map dcl) e=2):fndV (e.fl 0) 0 vl 2=evE vl e:=by
 have hkk:=kind_fl (ds:=vl.map dcl) hw hn;rw [hg,hk,if_pos rfl] at hkk;have ep:=e.pos;unfold fndV evV;rw [if_neg (by simp),hkk,if_neg (by simp),if_neg (by rw [hv]; simp),if_neg (by simp),fl_len]
 have:=ev_at (vl:=vl) hw (At.self e) (Nat.le_refl e.len);rw [show ((e.len:Nat):Int)-1=((0+e.len-1:Nat):Int) by omega]
 exact this
def GoodC (s:ByteArray)(vl:List WV)(e:Ex):Prop:=(lexS s).2.2=0∧(∃ k,Tr (.lv 6) (lexS s).1 k e [])∧gE (vl.map dcl) e=true∧kE (vl.map dcl) e=2∧∀ x∈e.fl 0,OKV (partV x)
theorem good_of {s:ByteArray}{vl:List WV}{r:PR}{ps:List PT}{p w:Int}(hv:varsB vl=true)(hr:Rd s.size (.lv 6) (lexS s).1 0 [] r)(hb:ParseBy s (vl.map dcl) r ps p w) :
   (∃ e,GoodC s vl e∧hldW ps w vl=(eqI (evE vl e).1.2.1 1,(evE vl e).2))∨((hldW ps w vl).2=w∧((LexW w∧0<s.size)∨w=131∨w=134∨w=132∨w=133))∨((hldW ps w vl).2=132):=by
 have hvv:¬ (varsB vl=false):=by rw [hv]; simp
 have hwne:w≠0→(hldW ps w vl).2=w:=fun h=>by unfold hldW fndV; rw [if_neg hvv,if_pos h]
 rcases hb with ⟨h1,rfl,rfl,rfl⟩|⟨h1,⟨h2,rfl,rfl,rfl⟩|⟨v,out,rfl,⟨hg,rfl,rfl,rfl⟩|⟨hbad,rfl⟩⟩⟩
 · refine .inr (.inl ⟨hwne h1,.inl ⟨?_,?_⟩⟩)
   · rcases lex_why s with h|h
     · exact absurd h h1
     · exact h
   · apply Classical.byContradiction
     intro h0;have hz:s.size=0:=by omega
     have:=lex_mk (s:=s) (l:=[]) (by omega) (by rw [bad,if_pos (by omega)]) (lx_end' (q:=s) (p:=0) (by omega))
     rw [this] at h1;exact h1 rfl
 · refine .inr (.inl ⟨hwne h2,.inr ?_⟩)
   have hwy:=rd_why hr
   cases r with
   | er p w =>
     rcases hwy with h|h
     · exact .inl h
     · exact .inr (.inl h)
   | ok v ts out =>
     cases ts with
     | nil=>exact absurd rfl h2
     | cons t ts=>exact .inl rfl
 · obtain ⟨k,e,g1,g2,g3,g4⟩:=rd_tr hr (by omega)
   simp only [List.nil_append,List.length_nil] at g3;subst g3;have hw:=tr_wf g2;have hsz:=rd_size hr;have hl:=lexS_len s;simp only [Size,List.length_nil] at hsz;rw [fl_len] at hsz;rw [good_fl hw] at hg;by_cases hk:kE (vl.map dcl) e=2
   · refine .inl ⟨e,⟨h1,⟨k,g2⟩,hg,hk,rd_okv hr⟩,?_⟩
     unfold hldW;rw [if_neg hvv,fnd_fl hv hw (by omega) hg hk]
   · refine .inr (.inr ?_)
     have hkk:=kind_fl (ds:=vl.map dcl) hw (by omega)
     rw [hg,if_pos rfl] at hkk;unfold hldW fndV;rw [if_neg hvv,if_neg (by simp),hkk,if_pos hk]
 · obtain ⟨k,x,a1,a2,a3,rfl,rfl⟩:=hbad
   refine .inr (.inl ⟨hwne (by split<;>simp),.inr (.inr (.inr ?_))⟩)
   split
   · exact .inr rfl
   · exact .inl rfl
theorem comb {q:ByteArray}{L:List Tk}{vl:List WV}{k:Nat}{E:Ex}(hv:varsB vl=true)(hq:lexS q=(L,0,0))(ht:Tr (.lv 6) L k E [])(hg:gE (vl.map dcl) E=true)(hk:kE (vl.map dcl) E=2) :
   ∃ r ps p w,Rd q.size (.lv 6) (lexS q).1 0 [] r∧ParseBy q (vl.map dcl) r ps p w∧((hldW ps w vl).2=134∨hldW ps w vl=(eqI (evE vl E).1.2.1 1,(evE vl E).2)):=by
 have hvv:¬ (varsB vl=false):=by rw [hv]; simp
 have hw:=tr_wf ht;have hl:=lexS_len q;rw [hq] at hl;have hrd:=(tr_rd (L:=q.size) ht) 0 [] (by omega)
 by_cases h16:k≤16
 · have hr:=hrd.1 (by omega)
   simp only [List.nil_append,List.length_nil] at hr;have hsz:=rd_size hr;simp only [Size,List.length_nil,fl_len] at hsz hl;refine ⟨_,E.fl 0,0,0,by rw [hq]; exact hr,.inr ⟨by rw [hq],.inr ⟨_,_,rfl,.inl ⟨by rw [good_fl hw]; exact hg,rfl,rfl,rfl⟩⟩⟩,.inr ?_⟩
   unfold hldW;rw [if_neg hvv,fnd_fl hv hw (by omega) hg hk]
 · obtain ⟨t,_,hr⟩:=hrd.2 (by omega)
   refine ⟨_,[],t.pos,134,by rw [hq]; exact hr,.inr ⟨by rw [hq],.inl ⟨by simp [fauA],rfl,rfl,rfl⟩⟩,.inl ?_⟩
   unfold hldW fndV;rw [if_neg hvv,if_pos (by simp)]
end
end Go.Proofs.YtaldobgfbkllfaaGreatDoor
