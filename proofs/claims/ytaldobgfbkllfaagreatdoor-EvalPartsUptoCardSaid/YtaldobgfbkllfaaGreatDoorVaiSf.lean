import Derived.Test.YtaldobgfbkllfaaGreatDoorVaiSe
import Derived.Test.YtaldobgfbkllfaaGreatDoorVaiSd
import Derived.Test.YtaldobgfbkllfaaGreatDoorVaiSa
set_option linter.unusedSimpArgs false
set_option linter.unusedVariables false
set_option linter.unusedSectionVars false
namespace Go.Proofs.YtaldobgfbkllfaaGreatDoor
open Vai
variable [Gl]
set_option maxHeartbeats 0
set_option maxRecDepth 100000
abbrev prt (k a b c vk vn:Int)(s nm:ByteArray)(at_:Int):T:=.agg [iv k,iv a,iv b,iv c,iv vk,iv vn,.str s,.str nm,iv at_]
theorem s106e (ps vs:T)(k a b c vk vn at_:Int)(s nm:ByteArray)(xk xn e1:Int)(xs:ByteArray)(he:e1≠0)
  (hA:∀ h,callD (cx.at 106) (call cx prim) 35 [.t (.agg [ps,vs]),.t (iv a)] h=some (.tup [.t (vv xk xn xs),.t (iv e1)],h)) :
  ∃ h',call cx prim 106 [.t (.agg [ps,vs]),.t (prt k a b c vk vn s nm at_)] .empty=some (.tup [.t (vv xk xn xs),.t (vv 0 0 ⟨#[]⟩),.t (iv e1)],h'):=by
 rw [call_run (cx:=cx) rfl Tryz.func106 ok106 nd106 rfl (lbe rfl) rfl rfl];simp -implicitDefEqProofs (disch:=omega) [hA,he,eqI]
theorem s106 (ps vs:T)(k a b c vk vn at_:Int)(s nm:ByteArray)(xk xn:Int)(xs:ByteArray)(yk yn e2:Int)(ys:ByteArray)
  (hA:∀ h,callD (cx.at 106) (call cx prim) 35 [.t (.agg [ps,vs]),.t (iv a)] h=some (.tup [.t (vv xk xn xs),.t (iv 0)],h))
  (hB:∀ h,callD (cx.at 106) (call cx prim) 35 [.t (.agg [ps,vs]),.t (iv b)] h=some (.tup [.t (vv yk yn ys),.t (iv e2)],h)) :
  ∃ h',call cx prim 106 [.t (.agg [ps,vs]),.t (prt k a b c vk vn s nm at_)] .empty=some (.tup [.t (vv xk xn xs),.t (vv yk yn ys),.t (iv e2)],h'):=by
 rw [call_run (cx:=cx) rfl Tryz.func106 ok106 nd106 rfl (lbe rfl) rfl rfl];simp -implicitDefEqProofs (disch:=omega) [hA,hB,eqI]
theorem c105 {c:FuncId}(n:Int)(h:H)(hm:md c 105 = .pure):callD (cx.at c) (call cx prim) 105 [.t (iv n)] h=some (.t (vv 1 n ⟨#[]⟩),h):=by
 obtain ⟨h',q⟩:=s105 n;exact pureT cb105 hm q rfl rfl
theorem c107 {c:FuncId}(h:H)(hh:h.marks=[])(hm:md c 107 = .keep):callD (cx.at c) (call cx prim) 107 [] h=some (.map h.next,h.push numsM) :=
 keepT cb107 hm (s107 h hh)
theorem c144 {c:FuncId}(a b:Int)(h:H)(hm:md c 144 = .pure):callD (cx.at c) (call cx prim) 144 [.t (iv a),.t (iv b)] h=some (.tup [.t (iv (IntKind.i64.wrap (a+b))),.t (.bool (ltI a (IntKind.i64.wrap (a+b)) == ltI 0 b))],h):=by
 obtain ⟨h',q⟩:=s144 a b;exact pureT cb144 hm q rfl rfl
structure PT where
 k:Int
 a:Int
 b:Int
 c:Int
 vk:Int
 vn:Int
 s:ByteArray
 nm:ByteArray
 at_:Int
abbrev prP (p:PT):T:=prt p.k p.a p.b p.c p.vk p.vn p.s p.nm p.at_
abbrev mch (ps:List PT)(vs:T):T:=.agg [.slice (ps.map prP),vs]
theorem s35v (ps:List PT)(vs:T)(i:Nat)(x:PT)(hx:ps[i]?=some x)(hk:x.k=1) :
  ∃ h',call cx prim 35 [.t (mch ps vs),.t (iv i)] .empty=some (.tup [.t (vv x.vk x.vn x.s),.t (iv 0)],h'):=by
 rw [call_run (cx:=cx) rfl Tryz.func35 ok35 nd35 rfl (lbe rfl) rfl rfl];have hg:(ps.map prP)[i]?=some (prP x):=by rw [List.getElem?_map,hx]; rfl
 simp -implicitDefEqProofs (disch:=omega) [-List.getElem?_map,hg,hk]
theorem c54 {c:FuncId}{x:T}{vs:List WV}{nm:ByteArray}(h:H)(hx:Slice x (vs.map varW))(hs:vs.length≤2000000)(hm:md c 54 = .pure):callD (cx.at c) (call cx prim) 54 [.t x,.t (.str nm)] h=some (.tup [.t (getT vs nm),.t (.bool (getW vs nm).isSome)],h):=by
 obtain ⟨h',q⟩:=s54 (nm:=nm) hx hs;exact pureT cb54 hm q (by unfold getT; cases getW vs nm<;>rfl) rfl
theorem s35n (ps:List PT)(vs:T)(vl:List WV)(hv:Slice vs (vl.map varW))(hl:vl.length≤2000000)(i:Nat)(x:PT)(hx:ps[i]?=some x)(hk:x.k=2) :
  ∃ h',call cx prim 35 [.t (mch ps vs),.t (iv i)] .empty=some (.tup [.t (getT vl x.nm),.t (iv 0)],h'):=by
 rw [call_run (cx:=cx) rfl Tryz.func35 ok35 nd35 rfl (lbe rfl) rfl rfl];have hg:(ps.map prP)[i]?=some (prP x):=by rw [List.getElem?_map,hx]; rfl
 have q1:=fun h=>c54 (c:=35) (nm:=x.nm) h hv hl rfl
 have e0:eqI x.k 1=false:=eqI_false (by omega)
 cases hgt:getW vl x.nm with
 | none=>simp -implicitDefEqProofs (disch:=omega) [-List.getElem?_map,hg,hk,q1,getT,hgt]
 | some w=>simp -implicitDefEqProofs (disch:=omega) [-List.getElem?_map,hg,hk,q1,getT,hgt]
end Go.Proofs.YtaldobgfbkllfaaGreatDoor

namespace Go.Proofs.YtaldobgfbkllfaaGreatDoor
open Vai
set_option maxHeartbeats 0
set_option maxRecDepth 100000
def sg:List Tk→ByteArray
 | []=>noText
 | t::_=>if 3≤t.kind then t.text else noText
def plc (L:Int):List Tk→Int
 | []=>L
 | t::_=>t.pos
def bMinus:ByteArray:=⟨#[45]⟩
def bNot:ByteArray:=⟨#[33]⟩
def bOpen:ByteArray:=⟨#[40]⟩
def bClose:ByteArray:=⟨#[41]⟩
def bAsk:ByteArray:=⟨#[63]⟩
def bColon:ByteArray:=⟨#[58]⟩
def bTrue:ByteArray:=⟨#[116,114,117,101]⟩
def bFalse:ByteArray:=⟨#[102,97,108,115,101]⟩
def bLen:ByteArray:=⟨#[108,101,110]⟩
def sgn:List ByteArray:=[⟨#[42]⟩,⟨#[47]⟩,⟨#[37]⟩,⟨#[43]⟩,⟨#[45]⟩,⟨#[61,61]⟩,⟨#[33,61]⟩,⟨#[60]⟩,⟨#[60,61]⟩,⟨#[62]⟩,⟨#[62,61]⟩,⟨#[38,38]⟩,⟨#[124,124]⟩]
def lev:Nat→Nat
 | 0=>1|1=>1|2=>1|3=>2|4=>2|5=>3|6=>3|7=>3|8=>3|9=>3|10=>3|11=>4|12=>5|_=>0
def opA (l:Nat)(s:ByteArray):Option Nat:=match sgn.findIdx? (fun y=>decide (y=s)) with
 | some i=>if lev i=l then some i else none
 | none=>none
def negA (s:ByteArray):Option Int:=if s=bMinus then some 3 else if s=bNot then some 4 else none
def leafA (t:Tk):Option PT :=
 if t.kind=1 then some ⟨1,0,0,0,1,t.n,noText,noText,t.pos⟩
 else if t.kind=2 then some ⟨1,0,0,0,3,0,t.text,noText,t.pos⟩
 else if t.kind=4 then none
 else if t.text=bTrue then some ⟨1,0,0,0,2,1,noText,noText,t.pos⟩
 else if t.text=bFalse then some ⟨1,0,0,0,2,0,noText,noText,t.pos⟩
 else if t.text=bLen then none
 else some ⟨2,0,0,0,0,0,noText,t.text,t.pos⟩
def nod (op a b c:Int)(p:Int):PT:=⟨op,a,b,c,0,0,noText,noText,p⟩
inductive PR where
 | ok (v:Nat) (ts:List Tk) (out:List PT)
 | er (p w:Int)
inductive Mo where
 | lv (l:Nat)
 | ch (l a n:Nat)
 | br
inductive Rd (L:Int):Mo→List Tk→Nat→List PT→PR→Prop
 | un_deep {t ts d out op}:negA (sg (t::ts))=some op→16≤d→Rd L (.lv 0) (t::ts) d out (.er t.pos 134)
 | un_er {t ts d out op p w}:negA (sg (t::ts))=some op→d<16→Rd L (.lv 0) ts (d+1) out (.er p w)→Rd L (.lv 0) (t::ts) d out (.er p w)
 | un_ok {t ts d out op v ts2 out2}:negA (sg (t::ts))=some op→d<16→Rd L (.lv 0) ts (d+1) out (.ok v ts2 out2) →
  Rd L (.lv 0) (t::ts) d out (.ok out2.length ts2 (out2 ++ [nod op v 0 0 t.pos]))
 | un_nil {d out}:Rd L (.lv 0) [] d out (.er L 131)
 | un_leaf {t ts d out p}:negA (sg (t::ts))=none→leafA t=some p→Rd L (.lv 0) (t::ts) d out (.ok out.length ts (out ++ [p]))
 | un_br {t ts d out r}:negA (sg (t::ts))=none→t.kind=4→Rd L .br (t::ts) d out r→Rd L (.lv 0) (t::ts) d out r
 | len_er {t ts d out p w}:t.kind≠1→t.kind≠2→t.kind≠4→t.text=bLen→Rd L .br ts d out (.er p w)→Rd L (.lv 0) (t::ts) d out (.er p w)
 | len_ok {t ts d out v ts2 out2}:t.kind≠1→t.kind≠2→t.kind≠4→t.text=bLen→Rd L .br ts d out (.ok v ts2 out2) →
  Rd L (.lv 0) (t::ts) d out (.ok out2.length ts2 (out2 ++ [nod 5 v 0 0 t.pos]))
 | br_no {ts d out}:sg ts≠bOpen→Rd L .br ts d out (.er (plc L ts) 131)
 | br_deep {t ts d out}:sg (t::ts)=bOpen→16≤d→Rd L .br (t::ts) d out (.er t.pos 134)
 | br_er {t ts d out p w}:sg (t::ts)=bOpen→d<16→Rd L (.lv 6) ts (d+1) out (.er p w)→Rd L .br (t::ts) d out (.er p w)
 | br_cl {t ts d out v ts2 out2}:sg (t::ts)=bOpen→d<16→Rd L (.lv 6) ts (d+1) out (.ok v ts2 out2)→sg ts2≠bClose →
  Rd L .br (t::ts) d out (.er (plc L ts2) 131)
 | br_ok {t ts d out v t2 ts2 out2}:sg (t::ts)=bOpen→d<16→Rd L (.lv 6) ts (d+1) out (.ok v (t2::ts2) out2)→sg (t2::ts2)=bClose →
  Rd L .br (t::ts) d out (.ok v ts2 out2)
 | lv_er {m ts d out p w}:m≤4→Rd L (.lv m) ts d out (.er p w)→Rd L (.lv (m+1)) ts d out (.er p w)
 | lv_ok {m ts d out a ts2 out2 r}:m≤4→Rd L (.lv m) ts d out (.ok a ts2 out2)→Rd L (.ch (m+1) a 0) ts2 d out2 r→Rd L (.lv (m+1)) ts d out r
 | ch_end {m ts d out} {a n:Nat}:((m=2∧1≤n)∨opA (m+1) (sg ts)=none)→Rd L (.ch (m+1) a n) ts d out (.ok a ts out)
 | ch_er {m t ts d out i p w} {a n:Nat}:¬ (m=2∧1≤n)→opA (m+1) (sg (t::ts))=some i→Rd L (.lv m) ts d out (.er p w)→Rd L (.ch (m+1) a n) (t::ts) d out (.er p w)
 | ch_ok {m t ts d out i ts2 out2 r} {a n b:Nat}:¬ (m=2∧1≤n)→opA (m+1) (sg (t::ts))=some i→Rd L (.lv m) ts d out (.ok b ts2 out2) →
  Rd L (.ch (m+1) out2.length (n+1)) ts2 d (out2 ++ [nod (6+i) a b 0 t.pos]) r→Rd L (.ch (m+1) a n) (t::ts) d out r
 | fo_er {ts d out p w}:Rd L (.lv 5) ts d out (.er p w)→Rd L (.lv 6) ts d out (.er p w)
 | fo_no {ts d out a ts2 out2}:Rd L (.lv 5) ts d out (.ok a ts2 out2)→sg ts2≠bAsk→Rd L (.lv 6) ts d out (.ok a ts2 out2)
 | fo_deep {ts d out a t ts2 out2}:Rd L (.lv 5) ts d out (.ok a (t::ts2) out2)→sg (t::ts2)=bAsk→16≤d→Rd L (.lv 6) ts d out (.er t.pos 134)
 | fo_b {ts d out a t ts2 out2 p w}:Rd L (.lv 5) ts d out (.ok a (t::ts2) out2)→sg (t::ts2)=bAsk→d<16→Rd L (.lv 6) ts2 (d+1) out2 (.er p w)→Rd L (.lv 6) ts d out (.er p w)
 | fo_cl {ts d out a t ts2 out2 b ts3 out3}:Rd L (.lv 5) ts d out (.ok a (t::ts2) out2)→sg (t::ts2)=bAsk→d<16→Rd L (.lv 6) ts2 (d+1) out2 (.ok b ts3 out3)→sg ts3≠bColon →
  Rd L (.lv 6) ts d out (.er (plc L ts3) 131)
 | fo_c {ts d out a t ts2 out2 b t3 ts3 out3 p w}:Rd L (.lv 5) ts d out (.ok a (t::ts2) out2)→sg (t::ts2)=bAsk→d<16→Rd L (.lv 6) ts2 (d+1) out2 (.ok b (t3::ts3) out3) →
  sg (t3::ts3)=bColon→Rd L (.lv 6) ts3 (d+1) out3 (.er p w)→Rd L (.lv 6) ts d out (.er p w)
 | fo_ok {ts d out a t ts2 out2 b t3 ts3 out3 c ts4 out4}:Rd L (.lv 5) ts d out (.ok a (t::ts2) out2)→sg (t::ts2)=bAsk→d<16→Rd L (.lv 6) ts2 (d+1) out2 (.ok b (t3::ts3) out3) →
  sg (t3::ts3)=bColon→Rd L (.lv 6) ts3 (d+1) out3 (.ok c ts4 out4)→Rd L (.lv 6) ts d out (.ok out4.length ts4 (out4 ++ [nod 19 a b c t.pos]))
theorem sg_ne {ts:List Tk}{x:ByteArray}(h:sg ts=x)(hx:x≠noText):∃ t ts2,ts=t::ts2:=by
 cases ts with
 | nil=>exact absurd h.symm hx
 | cons t ts2=>exact ⟨t,ts2,rfl⟩
theorem opA_no {l:Nat}:opA l noText=none:=rfl
theorem op_ne {ts:List Tk}{l i:Nat}(h:opA l (sg ts)=some i):∃ t ts2,ts=t::ts2:=by
 cases ts with
 | nil=>rw [show sg []=noText from rfl,opA_no] at h; cases h
 | cons t ts2=>exact ⟨t,ts2,rfl⟩
def Less:Mo→List Tk→PR→Prop
 | .ch _ _ _,ts,.ok _ ts2 _=>ts2.length≤ts.length
 | _,ts,.ok _ ts2 _=>ts2.length<ts.length
 | _,_,.er _ _=>True
theorem rd_less {L:Int}{mo:Mo}{ts:List Tk}{d:Nat}{out:List PT}{r:PR}(h:Rd L mo ts d out r):Less mo ts r:=by
 induction h with
 | un_br h1 h2 h3 ih=>rename_i r; cases r<;>simp only [Less] at ih ⊢; exact ih
 | lv_ok h1 h2 h3 ih1 ih2=>rename_i r; cases r<;>simp only [Less] at ih1 ih2 ⊢; omega
 | ch_ok h1 h2 h3 h4 ih1 ih2=>rename_i r _ _ _; cases r<;>simp only [Less,List.length_cons] at ih1 ih2 ⊢; omega
 | _=>simp only [Less,List.length_cons] at *; try omega
def rank:Mo→Nat
 | .br=>0
 | .lv l=>l+1
 | .ch _ _ _=>0
def Good:Mo→Prop
 | .br=>True
 | .lv l=>l≤6
 | .ch l _ _=>1≤l∧l≤5
theorem rd_total (L:Int):∀ (N:Nat) (mo:Mo) (ts:List Tk) (d:Nat) (out:List PT),ts.length*10+rank mo<N→Good mo→∃ r,Rd L mo ts d out r:=by
 intro N
 induction N with
 | zero=>intro _ _ _ _ h; omega
 | succ N ih =>
  intro mo ts d out hN hg
  cases mo with
  | br =>
   by_cases h1:sg ts=bOpen
   · obtain ⟨t,ts,rfl⟩:=sg_ne h1 (by decide)
     by_cases h2:d<16
     · obtain ⟨r,hr⟩:=ih (.lv 6) ts (d+1) out (by simp only [rank,List.length_cons] at hN ⊢; omega) (by simp [Good])
       cases r with
       | er p w=>exact ⟨_,.br_er h1 h2 hr⟩
       | ok v ts2 out2 =>
        by_cases h3:sg ts2=bClose
        · obtain ⟨t2,ts2,rfl⟩:=sg_ne h3 (by decide)
          exact ⟨_,.br_ok h1 h2 hr h3⟩
        · exact ⟨_,.br_cl h1 h2 hr h3⟩
     · exact ⟨_,.br_deep h1 (by omega)⟩
   · exact ⟨_,.br_no h1⟩
  | ch l a n =>
   obtain ⟨hl1,hl2⟩:=hg;obtain ⟨m,rfl⟩:∃ m,l=m+1:=⟨l-1,by omega⟩
   by_cases h1:m=2∧1≤n
   · exact ⟨_,.ch_end (.inl h1)⟩
   cases h2:opA (m+1) (sg ts) with
   | none=>exact ⟨_,.ch_end (.inr h2)⟩
   | some i =>
     obtain ⟨t,ts,rfl⟩:=op_ne h2;obtain ⟨r,hr⟩:=ih (.lv m) ts d out (by simp only [rank,List.length_cons] at hN ⊢; omega) (by simp only [Good]; omega)
     cases r with
     | er p w=>exact ⟨_,.ch_er h1 h2 hr⟩
     | ok b ts2 out2 =>
       have hle:=rd_less hr;simp only [Less] at hle;obtain ⟨r2,hr2⟩:=ih (.ch (m+1) out2.length (n+1)) ts2 d (out2 ++ [nod (6+i) a b 0 t.pos]) (by simp only [rank,List.length_cons] at hN ⊢; omega) ⟨hl1,hl2⟩
       exact ⟨_,.ch_ok h1 h2 hr hr2⟩
  | lv l =>
   simp only [Good] at hg
   cases l with
   | zero =>
     cases ts with
     | nil=>exact ⟨_,.un_nil⟩
     | cons t ts =>
       cases h1:negA (sg (t::ts)) with
       | some op =>
        by_cases h2:d<16
        · obtain ⟨r,hr⟩:=ih (.lv 0) ts (d+1) out (by simp only [rank,List.length_cons] at hN ⊢; omega) (by simp [Good])
          cases r with
          | er p w=>exact ⟨_,.un_er h1 h2 hr⟩
          | ok v ts2 out2=>exact ⟨_,.un_ok h1 h2 hr⟩
        · exact ⟨_,.un_deep h1 (by omega)⟩
       | none =>
        by_cases h4:t.kind=4
        · obtain ⟨r,hr⟩:=ih .br (t::ts) d out (by simp only [rank] at hN ⊢; omega) trivial
          exact ⟨_,.un_br h1 h4 hr⟩
        cases hlf:leafA t with
        | some p=>exact ⟨_,.un_leaf h1 hlf⟩
        | none =>
          have h5:t.kind≠1∧t.kind≠2∧t.text=bLen:=by
            unfold leafA at hlf;by_cases a1:t.kind=1
            · simp [a1] at hlf
            by_cases a2:t.kind=2
            · simp [a2] at hlf
            rw [if_neg a1,if_neg a2,if_neg h4] at hlf;by_cases a3:t.text=bTrue
            · simp [a3] at hlf
            by_cases a4:t.text=bFalse
            · rw [if_neg a3,if_pos a4] at hlf; cases hlf
            by_cases a5:t.text=bLen
            · exact ⟨a1,a2,a5⟩
            · rw [if_neg a3,if_neg a4,if_neg a5] at hlf; cases hlf
          obtain ⟨r,hr⟩:=ih .br ts d out (by simp only [rank,List.length_cons] at hN ⊢; omega) trivial
          cases r with
          | er p w=>exact ⟨_,.len_er h5.1 h5.2.1 h4 h5.2.2 hr⟩
          | ok v ts2 out2=>exact ⟨_,.len_ok h5.1 h5.2.1 h4 h5.2.2 hr⟩
   | succ m =>
     by_cases hm:m≤4
     · obtain ⟨r,hr⟩:=ih (.lv m) ts d out (by simp only [rank] at hN ⊢; omega) (by simp only [Good]; omega)
       cases r with
       | er p w=>exact ⟨_,.lv_er hm hr⟩
       | ok a ts2 out2 =>
        have hle:=rd_less hr;simp only [Less] at hle;obtain ⟨r2,hr2⟩:=ih (.ch (m+1) a 0) ts2 d out2 (by simp only [rank] at hN ⊢; omega) ⟨by omega,by omega⟩
        exact ⟨_,.lv_ok hm hr hr2⟩
     · obtain rfl:m=5:=by omega
       obtain ⟨r,hr⟩:=ih (.lv 5) ts d out (by simp only [rank] at hN ⊢; omega) (by simp [Good])
       cases r with
       | er p w=>exact ⟨_,.fo_er hr⟩
       | ok a ts2 out2 =>
        have hle:=rd_less hr;simp only [Less] at hle;by_cases h1:sg ts2=bAsk
        · obtain ⟨t,ts2,rfl⟩:=sg_ne h1 (by decide)
          simp only [List.length_cons] at hle;by_cases h2:d<16
          · obtain ⟨r2,hr2⟩:=ih (.lv 6) ts2 (d+1) out2 (by simp only [rank] at hN ⊢; omega) (by simp [Good])
            cases r2 with
            | er p w=>exact ⟨_,.fo_b hr h1 h2 hr2⟩
            | ok b ts3 out3 =>
              have hle2:=rd_less hr2;simp only [Less] at hle2;by_cases h3:sg ts3=bColon
              · obtain ⟨t3,ts3,rfl⟩:=sg_ne h3 (by decide)
                simp only [List.length_cons] at hle2;obtain ⟨r3,hr3⟩:=ih (.lv 6) ts3 (d+1) out3 (by simp only [rank] at hN ⊢; omega) (by simp [Good])
                cases r3 with
                | er p w=>exact ⟨_,.fo_c hr h1 h2 hr2 h3 hr3⟩
                | ok c ts4 out4=>exact ⟨_,.fo_ok hr h1 h2 hr2 h3 hr3⟩
              · exact ⟨_,.fo_cl hr h1 h2 hr2 h3⟩
          · exact ⟨_,.fo_deep hr h1 (by omega)⟩
        · exact ⟨_,.fo_no hr h1⟩
end Go.Proofs.YtaldobgfbkllfaaGreatDoor

namespace Go.Proofs.YtaldobgfbkllfaaGreatDoor
open Vai
variable [Gl]
set_option maxHeartbeats 0
set_option maxRecDepth 100000
theorem s72 (b:Nat):call cx prim 72 [.t (.int .u8 b)] .empty=some (.t (.bool (blankB b)),.empty):=by
 rw [call_run rfl Tryz.func72 ok72 nd72 rfl (lbe rfl) rfl rfl];unfold blankB;by_cases h1:b=32
 · subst h1; simp -implicitDefEqProofs (disch:=omega) []
 by_cases h2:b=9
 · subst h2; simp -implicitDefEqProofs (disch:=omega) []
 by_cases h3:b=10
 · subst h3; simp -implicitDefEqProofs (disch:=omega) []
 by_cases h4:b=13
 · subst h4; simp -implicitDefEqProofs (disch:=omega) []
 · simp -implicitDefEqProofs (disch:=omega) [h1,h2,h3,h4]
theorem c72 {c:FuncId}(b:Nat)(h:H)(hm:md c 72 = .pure):callD (cx.at c) (call cx prim) 72 [.t (.int .u8 b)] h=some (.t (.bool (blankB b)),h):=pureT cb72 hm (s72 b) rfl rfl
theorem s85 (b:Nat):call cx prim 85 [.t (.int .u8 b)] .empty=some (.t (.bool (blankB b)),.empty):=by
 rw [call_run rfl Tryz.func85 ok85 nd85 rfl (lbe rfl) rfl rfl];unfold blankB;by_cases h1:b=32
 · subst h1; simp -implicitDefEqProofs (disch:=omega) []
 by_cases h2:b=9
 · subst h2; simp -implicitDefEqProofs (disch:=omega) []
 by_cases h3:b=13
 · subst h3; simp -implicitDefEqProofs (disch:=omega) []
 by_cases h4:b=10
 · subst h4; simp -implicitDefEqProofs (disch:=omega) []
 · simp -implicitDefEqProofs (disch:=omega) [h1,h2,h3,h4]
theorem c85 {c:FuncId}(b:Nat)(h:H)(hm:md c 85 = .pure):callD (cx.at c) (call cx prim) 85 [.t (.int .u8 b)] h=some (.t (.bool (blankB b)),h):=pureT cb85 hm (s85 b) rfl rfl
theorem s117 (b:Nat):call cx prim 117 [.t (.int .u8 b)] .empty=some (.t (.bool (digitB b)),.empty):=by
 rw [call_run rfl Tryz.func117 ok117 nd117 rfl (lbe rfl) rfl rfl];unfold digitB;by_cases h1:48≤b
 · by_cases h2:b≤57
   · simp -implicitDefEqProofs (disch:=omega) [h1,h2]
   · simp -implicitDefEqProofs (disch:=omega) [h1,h2]
 · simp -implicitDefEqProofs (disch:=omega) [h1]
theorem c117 {c:FuncId}(b:Nat)(h:H)(hm:md c 117 = .pure):callD (cx.at c) (call cx prim) 117 [.t (.int .u8 b)] h=some (.t (.bool (digitB b)),h):=pureT cb117 hm (s117 b) rfl rfl
theorem s119 (b:Nat):call cx prim 119 [.t (.int .u8 b)] .empty=some (.t (.bool (letterB b)),.empty):=by
 rw [call_run rfl Tryz.func119 ok119 nd119 rfl (lbe rfl) rfl rfl];unfold letterB;by_cases h1:65≤b∧b≤90
 · simp -implicitDefEqProofs (disch:=omega) [h1]
 by_cases h2:97≤b∧b≤122
 · simp -implicitDefEqProofs (disch:=omega) [h2,show ¬ b≤90 by omega,show 65≤b by omega]
 by_cases h3:b=95
 · subst h3; simp -implicitDefEqProofs (disch:=omega) []
 · have e:decide ((65≤b∧b≤90)∨(97≤b∧b≤122)∨b=95)=false:=decide_eq_false (by omega)
   rw [e];by_cases h4:65≤b
   · by_cases h5:97≤b
     · simp -implicitDefEqProofs (disch:=omega) []
     · simp -implicitDefEqProofs (disch:=omega) []
   · simp -implicitDefEqProofs (disch:=omega) []
theorem c119 {c:FuncId}(b:Nat)(h:H)(hm:md c 119 = .pure):callD (cx.at c) (call cx prim) 119 [.t (.int .u8 b)] h=some (.t (.bool (letterB b)),h):=pureT cb119 hm (s119 b) rfl rfl
theorem s121 (b:Nat):∃ h',call cx prim 121 [.t (.int .u8 b)] .empty=some (.t (.bool (wordB b)),h'):=by
 rw [call_run rfl Tryz.func121 ok121 nd121 rfl (lbe rfl) rfl rfl];unfold wordB
 cases h1:letterB b with
 | true=>simp -implicitDefEqProofs (disch:=omega) [c119 (c:=121) b _ rfl,h1]
 | false=>simp -implicitDefEqProofs (disch:=omega) [c119 (c:=121) b _ rfl,c117 (c:=121) b _ rfl,h1]
theorem c121 {c:FuncId}(b:Nat)(h:H)(hm:md c 121 = .pure):callD (cx.at c) (call cx prim) 121 [.t (.int .u8 b)] h=some (.t (.bool (wordB b)),h):=by
 obtain ⟨h',q⟩:=s121 b;exact pureT cb121 hm q rfl rfl
def lxO (s:ByteArray)(i:Int)(d:D):AObj:=.row 120 3 [mkAgg [.t (.str s),.t (.int .i64 i),d]]
theorem mkAgg_parts (ds:List D):(mkAgg ds).parts=some ds:=by
 unfold mkAgg;split
 · rename_i ts h
   simp only [D.parts];rw [toT_isT h]
 · rfl
theorem set_self {h:H}{id:Nat}{o:AObj}(ho:h.objs id=some o):h.set id o=h:=by
 cases h with
 | mk objs next marks =>
  simp only [H.set,H.mk.injEq,and_true]
  funext j
  simp only [upd];split
  · rename_i e; subst e; exact ho.symm
  · rfl
section
variable {s:ByteArray}{i:Int}{d:D}{h:H}{L:Nat}(ho:h.objs L=some (lxO s i d))
include ho
theorem lx_s:loadD Tryz.prog h 9 (.ptr L 0 0 1)=some (.t (.str s)):=by simp [-mkAgg,loadD,H.els,ho,lxO,wholeArr,partD,mkAgg_cells]
theorem lx_at:loadD Tryz.prog h 3 (.ptr L 0 1 1)=some (.t (.int .i64 i)):=by simp [-mkAgg,loadD,H.els,ho,lxO,wholeArr,partD,mkAgg_cells]
theorem lx_out:loadD Tryz.prog h 80 (.ptr L 0 2 1)=some d:=by simp [-mkAgg,loadD,H.els,ho,lxO,wholeArr,partD,mkAgg_cells]
theorem lx_els:(h.els L 1)=some (120,3,[mkAgg [.t (.str s),.t (.int .i64 i),d]]):=by simp [H.els,ho,lxO]
theorem lx_nil:nilCheckD h (.ptr L 0 0 1)=some (.ptr L 0 0 1):=by simp only [nilCheckD,lx_els ho]
theorem lx_f0:fieldAddrD Tryz.prog h 120 (.ptr L 0 0 1) 0=some (.ptr L 0 0 1):=by simp [-H.els,fieldAddrD,lx_els ho]
theorem lx_f1:fieldAddrD Tryz.prog h 120 (.ptr L 0 0 1) 1=some (.ptr L 0 1 1):=by simp [-H.els,fieldAddrD,lx_els ho]
theorem lx_f2:fieldAddrD Tryz.prog h 120 (.ptr L 0 0 1) 2=some (.ptr L 0 2 1):=by simp [-H.els,fieldAddrD,lx_els ho]
theorem lx_set (j:Int):storeD Tryz.prog h 3 (.ptr L 0 1 1) (.t (.int .i64 j))=some (h.set L (lxO s j d)):=by
 have hm:h.mays L [D.t (.int .i64 j)]=true:=mays_trees h L [.int .i64 j];simp [-mkAgg,-H.els,-H.mays,storeD,lx_els ho,hm,okCells,wholeArr,mkAgg_cells,mkAgg_parts,splice,lxO]
theorem lx_put {d':D}(hd:d'.cells=[d'])(hm:h.may L d'=true):storeD Tryz.prog h 80 (.ptr L 0 2 1) d'=some (h.set L (lxO s i d')):=by
 have hm':h.mays L [d']=true:=by simp only [H.mays,List.all_cons,hm,List.all_nil,Bool.and_self]
 simp [-mkAgg,-H.els,-H.mays,-H.may,storeD,lx_els ho,hd,hm',okCells,wholeArr,mkAgg_cells,mkAgg_parts,splice,lxO]
end
theorem s71 {p:FuncId}{Pb:Nat→Bool}(hp:∀ (b:Nat) h,callD (cx.at 71) (call cx prim) p [.t (.int .u8 b)] h=some (.t (.bool (Pb b)),h)){s:ByteArray}{i:Nat}{d:D}{h:H}{L:Nat}(ho:h.objs L=some (lxO s i d))(hs:s.size≤1000000000)(hi:i≤s.size) :
  call cx prim 71 [.ptr L 0 0 1,.func (.func p) [] []] h=some (.t (.str (s.extract i (runTo Pb s i))),h.set L (lxO s (runTo Pb s i:Nat) d)):=by
 rw [call_run rfl Tryz.func71 ok71 nd71 rfl (lbe rfl) rfl rfl];simp -implicitDefEqProofs [-storeD,-load_ptr,-nilCheckD,-fieldAddrD,-H.els,lx_s ho,lx_at ho,lx_nil ho,lx_f0 ho,lx_f1 ho];generalize hLp:loopω _ _=R;obtain ⟨x,⟨nn,env,h2⟩,rfl,rfl,rfl,rfl,e0,e5⟩:=loop_uses hLp (s.size+1)
  (fun k st=>st.n=50∧st.env 0 = .ptr L 0 0 1∧st.env 1 = .func (.func p) [] []∧st.env 5 = .t (.int .i64 i)∧∃ j:Nat,i+k≤j∧j≤s.size∧runTo Pb s j=runTo Pb s i∧st.h=h.set L (lxO s j d))
  (fun x st=>st.n=50∧x = .exit 0∧st.h=h.set L (lxO s (runTo Pb s i:Nat) d)∧st.env 0 = .ptr L 0 0 1∧st.env 5 = .t (.int .i64 i))
  (by refine ⟨rfl,by simp,by simp,by simp,i,by omega,hi,rfl,(set_self ho).symm⟩) (by
  rintro k ⟨nn,env,h2⟩ hk ⟨rfl,e0,e1,e5,j,hik,hj,hrun,rfl⟩;simp only at e0 e1 e5;have ho2:(h.set L (lxO s j d)).objs L=some (lxO s j d):=by simp
  rw [LB_run nd71 rfl];by_cases hi2:j<s.size
  · obtain ⟨b,hb,hbt⟩:=bt_get hi2
    have c1:(j:Int)<s.size:=by omega
    have pq:=fun h=>hp b.toNat h
    have hs2:=lx_set ho2 (j+1:Int)
    cases hpb:Pb b.toNat with
    | true =>
     have hrs:=runTo_step (p:=Pb) hi2 (by rw [hbt]; exact hpb)
     rw [hpb] at pq;simp -implicitDefEqProofs (disch:=omega) [-storeD,-load_ptr,-nilCheckD,-fieldAddrD,-H.els,lx_s ho2,lx_at ho2,lx_nil ho2,lx_f0 ho2,lx_f1 ho2,e0,e1,e5,hb,pq,Wp_some,hs2];exact ⟨by omega,j+1,by omega,by omega,by rw [hrs,hrun],rfl⟩
    | false =>
     rw [hpb] at pq;have hrs:=runTo_stop (p:=Pb) (s:=s) (i:=j) (by rw [hbt,hpb]; simp)
     simp -implicitDefEqProofs (disch:=omega) [-storeD,-load_ptr,-nilCheckD,-fieldAddrD,-H.els,lx_s ho2,lx_at ho2,lx_nil ho2,lx_f0 ho2,lx_f1 ho2,e0,e1,e5,hb,pq,Wp_some];rw [←hrun,hrs]
  · have hrs:=runTo_stop (p:=Pb) (s:=s) (i:=j) (by omega)
    simp -implicitDefEqProofs (disch:=omega) [-storeD,-load_ptr,-nilCheckD,-fieldAddrD,-H.els,lx_s ho2,lx_at ho2,lx_nil ho2,lx_f0 ho2,lx_f1 ho2,e0,e1,e5,Wp_some];rw [←hrun,hrs])
 simp only at e0 e5;have hle:=runTo_le (p:=Pb) hi;have hge:=runTo_ge Pb s i;generalize runTo Pb s i=j at hle hge;have ho2:(h.set L (lxO s j d)).objs L=some (lxO s j d):=by simp
 simp -implicitDefEqProofs (disch:=omega) [-storeD,-load_ptr,-nilCheckD,-fieldAddrD,-H.els,lx_s ho2,lx_at ho2,lx_nil ho2,lx_f0 ho2,lx_f1 ho2,e0,e5,sl_str]
def LX (n:Nat)(h:H)(L:Nat)(s:ByteArray)(i:Nat)(ts:List T):Prop:=n≤L∧L<h.next∧h.marks=[]∧(∀ x∈ts,x.cells.length=4)∧∃ d,h.objs L=some (lxO s i d)∧((d = .t .nilSlice∧ts=[])∨∃ id,n≤id∧id<h.next∧d = .row id 0 ts.length ts.length∧h.objs id=some (.row 134 4 (ts.map .t)))
def Fr (n:Nat)(h h':H):Prop:=h.next≤h'.next∧h'.marks=h.marks∧∀ id,id<n→h'.objs id=h.objs id
theorem Fr.refl (n:Nat)(h:H):Fr n h h:=⟨Nat.le_refl _,rfl,fun _ _=>rfl⟩
theorem Fr.trans {n:Nat}{h h1 h2:H}(a:Fr n h h1)(b:Fr n h1 h2):Fr n h h2:=⟨Nat.le_trans a.1 b.1,b.2.1.trans a.2.1,fun id hid=>(b.2.2 id hid).trans (a.2.2 id hid)⟩
theorem Fr.set {n id:Nat}{h:H}{o:AObj}(hid:n≤id):Fr n h (h.set id o):=⟨Nat.le_refl _,rfl,fun j hj=>by simp only [set_objs,upd_ne _ _ (show j≠id by omega)]⟩
theorem Fr.push {n:Nat}{h:H}{o:AObj}(hn:n≤h.next):Fr n h (h.push o):=⟨Nat.le_succ _,rfl,fun j hj=>by simp only [push_objs,upd_ne _ _ (show j≠h.next by omega)]⟩
theorem LX.move {n:Nat}{h:H}{L:Nat}{s:ByteArray}{i:Nat}{ts:List T}(hl:LX n h L s i ts)(j:Nat):∃ d,h.objs L=some (lxO s i d)∧LX n (h.set L (lxO s j d)) L s j ts∧Fr n h (h.set L (lxO s j d)):=by
 obtain ⟨h1,h2,h3,h4,d,hd,h5⟩:=hl;refine ⟨d,hd,⟨h1,h2,h3,h4,d,by simp,?_⟩,Fr.set h1⟩
 rcases h5 with h5|⟨id,g1,g2,rfl,g3⟩
 · exact .inl h5
 · refine .inr ⟨id,g1,g2,rfl,?_⟩
   have hne:id≠L:=fun e=>by
    subst e;rw [hd] at g3;simp [lxO] at g3
   simp only [set_objs,upd_ne _ _ hne];exact g3
theorem s120 {n:Nat}{h:H}{L:Nat}{s:ByteArray}{i:Nat}{ts:List T}(hl:LX n h L s i ts)(hlen:ts.length≤1000000)(t:Tk) :
   ∃ h',call cx prim 120 [.ptr L 0 0 1,.t t.t] h=some (.tup [],h')∧LX n h' L s i (ts ++ [t.t])∧Fr n h h'∧∀ id es,id<h.next→h.objs id=some (.row 118 1 es)→h'.objs id=some (.row 118 1 es):=by
 obtain ⟨h1,h2,h3,h4,d,hd,h5⟩:=hl;rw [call_run rfl Tryz.func120 ok120 nd120 rfl (lbe rfl) rfl rfl];have hb:∀ o,(h.push o).objs L=some (lxO s i d):=fun o=>by simp only [push_objs,upd_ne _ _ (show L≠h.next by omega)]; exact hd
 have f1:=fun o=>lx_out (hb o)
 have f2:=fun o=>lx_nil (hb o)
 have f3:=fun o=>lx_f2 (hb o)
 rcases h5 with ⟨rfl,rfl⟩|⟨id,g1,g2,rfl,g3⟩
 · have hb2:∀ o o',((h.push o).push o').objs L=some (lxO s i (.t .nilSlice)):=fun o o'=>by simp only [push_objs,push_next,upd_ne _ _ (show L≠h.next by omega),upd_ne _ _ (show L≠h.next+1 by omega)]; exact hd
   have k2:=fun o o'=>lx_nil (hb2 o o')
   have kf:=fun o o'=>lx_out (hb2 o o')
   have k3:=fun o o'=>lx_f2 (hb2 o o')
   have k4:=fun o o'=>lx_put (d':=.row (h.next+1) 0 1 1) (hb2 o o') rfl (by simp [h3])
   simp -implicitDefEqProofs (disch:=omega) [-storeD,-nilCheckD,-fieldAddrD,f1,f2,f3,Tk.t,litSliceD,List.replicate,appendD,sourceD,kf,k2,k3,k4];refine ⟨⟨h1,by simp; omega,h3,by simp,.row (h.next+1) 0 1 1,by simp,.inr ⟨h.next+1,by omega,by simp,rfl,?_⟩⟩,((Fr.push (by omega)).trans (Fr.push (by simp; omega))).trans (Fr.set h1),fun id es hid ho=>?_⟩
   · simp [show ¬ (h.next+1=L) by omega]
   · have hne:id≠L:=fun e=>by
       subst e;rw [hd] at ho;simp [lxO] at ho
     simp [hne,show ¬ (id=h.next) by omega,show ¬ (id=h.next+1) by omega,ho]
 · have hne:id≠L:=fun e=>by
     subst e;rw [hd] at g3;simp [lxO] at g3
   have hb3:∀ o,(h.push o).objs id=some (.row 134 4 (ts.map .t)):=fun o=>by simp only [push_objs,upd_ne _ _ (show id≠h.next by omega)]; exact g3
   have hb2:∀ o o',((h.push o).set id o').objs L=some (lxO s i (.row id 0 ts.length ts.length)):=fun o o'=>by simp only [push_objs,set_objs,upd_ne _ _ (show L≠h.next by omega),upd_ne _ _ (show L≠id from fun e=>hne e.symm)]; exact hd
   have k2:=fun o o'=>lx_nil (hb2 o o')
   have kf:=fun o o'=>lx_out (hb2 o o')
   have k3:=fun o o'=>lx_f2 (hb2 o o')
   have k4:=fun o o'=>lx_put (d':=.row id 0 (ts.length+1) (ts.length+1)) (hb2 o o') rfl (by simp [h3])
   have hall:(ts.map D.t).all (fun d=>d.cells.length == 4)=true:=by
     simp only [List.all_map,List.all_eq_true];intro x hx;simp [h4 x hx]
   have e1:(ts.length:Nat)+1<140737488355328:=by omega
   have e2:(ts.length+1)*40≤140737488355328:=by omega
   simp -implicitDefEqProofs (disch:=omega) [-storeD,-nilCheckD,-fieldAddrD,f1,f2,f3,Tk.t,litSliceD,List.replicate,appendD,sourceD,kf,k2,k3,k4,hb3,h3,e1,e2,show ¬ (id=h.next) by omega,g3]
   refine ⟨⟨h1,by simp; omega,h3,fun x hx=>?_,.row id 0 (ts.length+1) (ts.length+1),by simp,.inr ⟨id,g1,by simp; omega,by simp,?_⟩⟩,((Fr.push (by omega)).trans (Fr.set g1)).trans (Fr.set h1),fun id2 es hid ho=>?_⟩
   · rcases List.mem_append.1 hx with hx|hx
     · exact h4 x hx
     · simp at hx; subst hx; rfl
   · simp [hne]
   · have hne2:id2≠L:=fun e=>by
       subst e;rw [hd] at ho;simp [lxO] at ho
     have hne3:id2≠id:=fun e=>by
       subst e;rw [g3] at ho;simp at ho
     simp [hne2,hne3,show ¬ (id2=h.next) by omega,ho]
theorem c120 {c:FuncId}{n:Nat}{h:H}{L:Nat}{s:ByteArray}{i:Nat}{ts:List T}(hl:LX n h L s i ts)(hlen:ts.length≤1000000)(t:Tk) :
  ∃ h',callD (cx.at c) (call cx prim) 120 [.ptr L 0 0 1,.t t.t] h=some (.tup [],h')∧LX n h' L s i (ts ++ [t.t])∧Fr n h h'∧∀ id es,id<h.next→h.objs id=some (.row 118 1 es)→h'.objs id=some (.row 118 1 es):=by
 obtain ⟨h',q,r⟩:=s120 hl hlen t;exact ⟨h',keepT cb120 (by simp [md]) q,r⟩
def Steps (n:Nat)(h:H)(L:Nat)(s:ByteArray)(ts:List T)(r:Option (D × H)):Except (Nat × Int) (Tk × Nat)→Prop
 | .ok (t,j)=>∃ h',r=some (.tup [.t (.int .i64 0),.t (.int .i64 0)],h')∧LX n h' L s j (ts ++ [t.t])∧Fr n h h'
 | .error (a,w)=>∃ h',r=some (.tup [.t (.int .i64 a),.t (.int .i64 w)],h')∧Fr n h h'
theorem c154 {c:FuncId}(s:ByteArray)(h:H)(hs:s.size≤1000000000):callD (cx.at c) (call cx prim) 154 [.t (.str s),.t (.int .i64 10),.t (.int .i64 64)] h=match Lib.parseIntB 64 s.data.toList with
  | .ok v=>some (.tup [.t (.int .i64 v),.t .nilIface],h)
  | _=>some (.tup [.undef,.iface 220 .undef],h):=by
 have q:call cx prim 154 [.t (.str s),.t (.int .i64 10),.t (.int .i64 64)] h=match Lib.parseIntB 64 s.data.toList with
  | .ok v=>some (.tup [.t (.int .i64 v),.t .nilIface],h)
  | _=>some (.tup [.undef,.iface 220 .undef],h):=by
  rw [call_prim (g:=parseA) rfl];simp only [parseA,hs,and_self,if_true];cases Lib.parseIntB 64 s.data.toList<;>rfl
 revert q;cases Lib.parseIntB 64 s.data.toList<;>exact fun q=>keepT cb154 (by simp [md]) q
theorem lx_isAt {n:Nat}{h:H}{L:Nat}{s:ByteArray}{i:Nat}{ts:List T}(hl:LX n h L s i ts):∃ d,h.objs L=some (lxO s i d):=hl.2.2.2.2.elim fun d hd=>⟨d,hd.1⟩
theorem s118 {n:Nat}{h:H}{L:Nat}{s:ByteArray}{i:Nat}{ts:List T}(hl:LX n h L s i ts)(hlen:ts.length≤1000000)(hs:s.size≤1000000)(hi:i<s.size)(hd:digitB (bt s i)=true) :
   Steps n h L s ts (call cx prim 118 [.ptr L 0 0 1] h) (match numS (cut s i (runTo digitB s i)) with
     | some n=>.ok (⟨1,noText,n,i⟩,runTo digitB s i)
     | none=>.error (i,122)):=by
 rw [call_run rfl Tryz.func118 ok118 nd118 rfl (lbe rfl) rfl rfl];obtain ⟨d,ho,hl2,hfr⟩:=hl.move (runTo digitB s i);have w:=fun (h:H) (ho:h.objs L=some (lxO s i d))=>keepT (cc:=cx.at 118) cb71 (by simp [md]) (s71 (p:=117) (fun b h=>c117 b h rfl) ho (by omega) (by omega))
 have hge:=runTo_ge digitB s (i+1);rw [runTo_step hi hd] at hge;have hle:=runTo_le (p:=digitB) (s:=s) (i:=i) (by omega)
 have hall:=cut_all (p:=digitB) (s:=s) (i:=i);have hcl:=cut_len (i:=i) hle;rw [extract_cut (by omega)] at w
 generalize runTo digitB s i=j at w hge hle hl2 hfr hall hcl;generalize hcs:cut s i j=l at w hall hcl;have hne:l≠[]:=fun e=>by rw [e] at hcl; simp at hcl; omega
 have hsz:(⟨l.toArray⟩:ByteArray).size=l.length:=by simp [ByteArray.size]
 have hpi:=c154 (c:=118) ⟨l.toArray⟩ (h.set L (lxO s j d)) (by rw [hsz]; omega)
 have hdl:(⟨l.toArray⟩:ByteArray).data.toList=l:=rfl;rw [hdl,parse_digits hne hall] at hpi;have hg0:∃ b,l[0]?=some b:=by
   cases l with
   | nil=>exact absurd rfl hne
   | cons b l=>exact ⟨b,rfl⟩
 obtain ⟨b0,hb0⟩:=hg0;have hb1:∀ (h:0<l.length),l[0]=b0:=fun h=>by rw [List.getElem?_eq_getElem h] at hb0; exact Option.some.inj hb0
 have hgd:(l.getD 0 0)=b0:=by rw [List.getD_eq_getElem?_getD,hb0]; rfl
 unfold numS;rw [hgd];by_cases h1:dval l<9223372036854775808
 · rw [if_pos h1] at hpi
   simp only at hpi;by_cases h2:1<l.length
   · have h2':(1:Int)<l.length:=by omega
     by_cases h3:b0.toNat=48
     · rw [if_neg (fun h=>h.2 ⟨h2,h3⟩)]
       simp only [Steps];simp -implicitDefEqProofs (disch:=omega) [-storeD,-load_ptr,-nilCheckD,-fieldAddrD,-H.els,lx_s ho,lx_at ho,lx_nil ho,lx_f0 ho,lx_f1 ho,w h ho,hpi,hsz,hb0,hb1,h3,h2'];exact hfr
     · rw [if_pos ⟨h1,fun h=>h3 h.2⟩]
       obtain ⟨h',q,q2,q3,_⟩:=c120 (c:=118) hl2 hlen ⟨1,noText,dval l,i⟩;simp only [Tk.t,noText] at q;have h3':eqI (b0.toNat:Int) 48=false:=eqI_false (by omega)
       simp only [Steps];simp -implicitDefEqProofs (disch:=omega) [-storeD,-load_ptr,-nilCheckD,-fieldAddrD,-H.els,lx_s ho,lx_at ho,lx_nil ho,lx_f0 ho,lx_f1 ho,w h ho,hpi,hsz,hb0,hb1,h3',h2',q];exact ⟨q2,hfr.trans q3⟩
   · rw [if_pos ⟨h1,fun h=>h2 h.1⟩]
     have h2':¬ (1:Int)<l.length:=by omega
     obtain ⟨h',q,q2,q3,_⟩:=c120 (c:=118) hl2 hlen ⟨1,noText,dval l,i⟩;simp only [Tk.t,noText] at q;simp only [Steps];simp -implicitDefEqProofs (disch:=omega) [-storeD,-load_ptr,-nilCheckD,-fieldAddrD,-H.els,lx_s ho,lx_at ho,lx_nil ho,lx_f0 ho,lx_f1 ho,w h ho,hpi,hsz,h2',q];exact ⟨q2,hfr.trans q3⟩
 · rw [if_neg h1] at hpi
   simp only at hpi;rw [if_neg (fun h=>h1 h.1)]
   simp only [Steps];simp -implicitDefEqProofs (disch:=omega) [-storeD,-load_ptr,-nilCheckD,-fieldAddrD,-H.els,lx_s ho,lx_at ho,lx_nil ho,lx_f0 ho,lx_f1 ho,w h ho,hpi,hsz];exact hfr
theorem s156 {h:H}{L B:Nat}{s:ByteArray}{i:Nat}{d:D}(ho:h.objs L=some (lxO s i d))(hB:h.objs B=some (.row 118 1 [.ptr L 0 0 1]))(hs:s.size≤1000000)(hi:i<s.size)(x:ByteArray)(hx:x.size≤1000) :
   call cx prim 156 [.t (.str x),.ptr B 0 0 1] h=some (.t (.bool (atS s i x)),h):=by
 rw [call_run rfl Tryz.func156 ok156 nd156 rfl (lbe rfl) rfl rfl];have lB:loadD Tryz.prog h 118 (.ptr B 0 0 1)=some (.ptr L 0 0 1):=by simp [loadD,H.els,hB]
 unfold atS;by_cases h1:i+x.size≤s.size
 · have g1:(x.size:Int)≤s.size-i:=by omega
   have g2:=sl_str (s:=s) (a:=i) (b:=(i:Int)+x.size);have g3:((i:Int)+x.size).toNat=i+x.size:=by omega
   simp -implicitDefEqProofs (disch:=omega) [-storeD,-load_ptr,-nilCheckD,-fieldAddrD,-H.els,lx_s ho,lx_at ho,lx_nil ho,lx_f0 ho,lx_f1 ho,lB,g2,g3,h1]
 · have g1:¬ (x.size:Int)≤s.size-i:=by omega
   simp -implicitDefEqProofs (disch:=omega) [-storeD,-load_ptr,-nilCheckD,-fieldAddrD,-H.els,lx_s ho,lx_at ho,lx_nil ho,lx_f0 ho,lx_f1 ho,lB,h1]
theorem c156 {c:FuncId}{h:H}{L B:Nat}{s:ByteArray}{i:Nat}{d:D}(ho:h.objs L=some (lxO s i d))(hB:h.objs B=some (.row 118 1 [.ptr L 0 0 1]))(hs:s.size≤1000000)(hi:i<s.size)(x:ByteArray)(hx:x.size≤1000) :
 callD (cx.at c) (call cx prim) 156 [.t (.str x),.ptr B 0 0 1] h=some (.t (.bool (atS s i x)),h):=keepT cb156 (by simp [md]) (s156 ho hB hs hi x hx)
theorem s155 {h:H}{L B:Nat}{s:ByteArray}{i:Nat}{d:D}(ho:h.objs L=some (lxO s i d))(hB:h.objs B=some (.row 118 1 [.ptr L 0 0 1]))(hs:s.size≤1000000)(hi:i<s.size)(xs:List ByteArray)(hx:∀ x∈xs,x.size≤1000)(hxl:xs.length≤1000) :
   call cx prim 155 [.t (.slice (xs.map .str)),.func (.func 156) [] [.ptr B 0 0 1]] h=some (.t (.int .i64 (match xs.findIdx? (atS s i) with|some k=>(k:Int)|none=>-1)),h):=by
 rw [call_run rfl Tryz.func155 ok155 nd155 rfl (lbe rfl) rfl rfl];simp -implicitDefEqProofs (disch:=omega) [];generalize hLp:loopω _ _=R;obtain ⟨x,⟨nn,env,h2⟩,rfl,rfl,rfl,hx2⟩:=loop_uses hLp xs.length
   (fun k st=>st.n=19∧st.h=h∧st.env 0 = .t (.slice (xs.map .str))∧st.env 1 = .func (.func 156) [] [.ptr B 0 0 1]∧st.env 7 = .t (.int .i64 xs.length)∧st.env 8 = .t (.int .i64 k)∧xs.findIdx? (atS s i)=((xs.drop k).findIdx? (atS s i)).map (· + k))
   (fun x st=>st.n=19∧st.h=h∧((x = .exit 0∧xs.findIdx? (atS s i)=none)∨∃ k:Nat,x = .ret∧xs.findIdx? (atS s i)=some k∧st.env 4 = .t (.int .i64 k)))
   (by refine ⟨rfl,rfl,by simp,by simp,by simp,by simp,by simp⟩) (by
   rintro k ⟨nn,env,h2⟩ hk ⟨rfl,rfl,e0,e1,e7,e8,hf⟩;simp only at e0 e1 e7 e8;rw [LB_run nd155 rfl];by_cases hk':k<xs.length
   · have hget:xs[k]?=some xs[k]:=List.getElem?_eq_getElem hk'
     have q:=c156 (c:=155) ho hB hs hi xs[k] (hx _ (List.getElem_mem hk'));rw [List.drop_eq_getElem_cons hk',List.findIdx?_cons] at hf
     cases ha:atS s i xs[k] with
     | true =>
      rw [ha] at q hf;simp only [if_true,Option.map_some,Nat.zero_add] at hf;simp -implicitDefEqProofs (disch:=omega) [e0,e1,e7,e8,hget,q,Wp_some,hf]
     | false =>
      rw [ha] at q hf;simp -implicitDefEqProofs (disch:=omega) [e0,e1,e7,e8,hget,q,Wp_some];refine ⟨by omega,?_⟩
      rw [hf];simp only [Bool.false_eq_true,if_false,Option.map_map];congr 1
      funext x
      simp only [Function.comp];omega
   · obtain rfl:k=xs.length:=by omega
     simp at hf;simp -implicitDefEqProofs (disch:=omega) [e0,e1,e7,e8,Wp_some];simpa using hf)
 rcases hx2 with ⟨rfl,hf⟩|⟨k,rfl,hf,e4⟩
 · rw [hf]
   simp -implicitDefEqProofs (disch:=omega) []
 · rw [hf]
   simp only at e4;simp -implicitDefEqProofs (disch:=omega) [e4]
end Go.Proofs.YtaldobgfbkllfaaGreatDoor
