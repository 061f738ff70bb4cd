import Derived.Test.YtaldobgfbkllfaaGreatDoorVaiSa
import Derived.Test.YtaldobgfbkllfaaGreatDoorVaiD
import Derived.Test.YtaldobgfbkllfaaGreatDoorRows
import Derived.Test.YtaldobgfbkllfaaGreatDoorVaiE
import Derived.Lib.ParseIntBMem
import Derived.Shelf.Small.Strs
import Derived.Shelf.Strconv.ParseIntPublic10
import Derived.Shelf.Strconv.Itoa4
import Derived.Lib.AppendIntMem
set_option linter.unusedSimpArgs false
set_option linter.unusedVariables false
set_option linter.unusedSectionVars false
namespace Vai
open Go
theorem bad_ge' (s:ByteArray)(i:Nat):bad s i = -1∨(i:Int)≤bad s i:=by
 fun_induction bad s i with
 | case1=>exact .inl rfl
 | case2=>exact .inr (by omega)
 | case3 i h1 h2 ih=>omega
theorem bad_split {s:ByteArray}{p:Nat}(hp:p<s.size)(h128:bt s p<128){i:Nat}(hi:i≤p)(hb:bad s i = -1):bad s p = -1∧bad (s.extract 0 p) i = -1:=by
 have hsz:=size_ext (s:=s) (a:=0) (Nat.le_of_lt hp)
 fun_induction bad s i with
 | case1=>omega
 | case2=>omega
 | case3 i h1 h2 ih =>
  by_cases hip:i=p
  · subst hip
    refine ⟨by rw [bad_step (by omega),if_neg h2]; exact hb,by rw [bad,if_pos (by omega)]⟩
  · have hle:i+(nx s i).2≤p:=by
     apply Classical.byContradiction;intro hn;have:=(nx_conts (s:=s) (i:=i)).2 (p-i) (by omega) (by omega)
     rw [show i+(p-i)=p by omega] at this
     have:=cont_ge this;omega
    have hnx:=nx_pre (Nat.le_of_lt hp) hle h2;obtain ⟨k1,k2⟩:=ih hle hb;refine ⟨k1,?_⟩;rw [bad_step (by omega),hnx,if_neg h2]
    exact k2
theorem bad_suf {s:ByteArray}{p:Nat}(hp:p≤s.size){i:Nat}(hb:bad s (p+i) = -1):bad (s.extract p s.size) i = -1:=by
 have hsz:=size_ext (s:=s) (a:=p) (Nat.le_refl _);generalize hk:p+i=k at hb
 fun_induction bad s k generalizing i with
 | case1 k h=>rw [bad,if_pos (by omega)]
 | case2=>omega
 | case3 k h1 h2 ih =>
  subst hk;rw [bad_step (by omega),nx_suf hp,if_neg h2]
  exact ih (by omega) hb
theorem tok1_pos {s:ByteArray}{i j:Nat}{t:Tk}(h:tok1 s i = .ok (t,j)):t.pos=i∧bt s i<128:=by
 unfold tok1 at h;split at h
 · rename_i h1
   simp only [digitB,decide_eq_true_eq] at h1;split at h
   · cases h; exact ⟨rfl,by omega⟩
   · cases h
 split at h
 · rename_i h1
   simp only [letterB,decide_eq_true_eq] at h1;cases h; exact ⟨rfl,by omega⟩
 split at h
 · split at h
   · split at h
     · cases h
     · cases h; exact ⟨rfl,by omega⟩
   · cases h
 split at h
 · cases h
 · rename_i h1
   cases h;refine ⟨rfl,?_⟩;unfold signL at h1;split at h1
   · rename_i h2; omega
   · split at h1
     · omega
     · exact absurd rfl h1
theorem toks_acc {s:ByteArray}{i:Nat}{acc acc' m:List Tk}(h:toks s i (acc++acc') = .ok m):∃ l,m=acc++l∧toks s i acc' = .ok l:=by
 generalize ha:acc++acc'=A at h
 fun_induction toks s i A generalizing acc' with
 | case1 i A h1 =>
  cases h;subst ha;exact ⟨acc',rfl,by rw [toks,if_pos h1]⟩
 | case2=>cases h
 | case3 i A h1 t j ht h2 ih =>
  subst ha;obtain ⟨l,h3,h4⟩:=ih (acc':=acc' ++ [t]) (by simp) h
  refine ⟨l,h3,?_⟩;rw [toks,if_neg h1,ht];simp only;rw [dif_pos h2];exact h4
 | case4 i A h1 t j ht h2 =>
  cases h;subst ha;refine ⟨acc',rfl,?_⟩;rw [toks,if_neg h1,ht];simp only;rw [dif_neg h2]
theorem toks_more {s:ByteArray}{acc:List Tk}{i:Nat}{A:List Tk}:∀ {l},toks s i A = .ok l→toks s i (acc++A) = .ok (acc++l):=by
 fun_induction toks s i A with
 | case1 i A h1=>intro l h; cases h; rw [toks,if_pos h1]
 | case2=>intro l h; cases h
 | case3 i A h1 t j ht h2 ih =>
  intro l h;rw [toks,if_neg h1,ht];simp only;rw [dif_pos h2,List.append_assoc];exact ih h
 | case4 i A h1 t j ht h2 =>
  intro l h;cases h;rw [toks,if_neg h1,ht];simp only;rw [dif_neg h2]
theorem toks_acc' {s:ByteArray}{i:Nat}{acc l:List Tk}(h:toks s i [] = .ok l):toks s i acc = .ok (acc++l):=by
 have:=toks_more (acc:=acc) h;simpa using this
theorem toks_cons {s:ByteArray}{i:Nat}{l:List Tk}(hi:i≤s.size)(h:toks s i [] = .ok l):(s.size≤runTo blankB s i∧l=[])∨∃ t j l',runTo blankB s i<s.size∧tok1 s (runTo blankB s i) = .ok (t,j)∧l=t::l'∧toks s j [] = .ok l':=by
 have hge:=runTo_ge blankB s i;rw [toks] at h;by_cases h1:s.size≤runTo blankB s i
 · rw [if_pos h1] at h
   cases h;exact .inl ⟨h1,rfl⟩
 · rw [if_neg h1] at h
   cases ht:tok1 s (runTo blankB s i) with
   | error f=>rw [ht] at h; cases h
   | ok tj =>
    obtain ⟨t,j⟩:=tj;rw [ht] at h;have hgt:=tok1_gt (by omega) ht
    simp only at h;rw [dif_pos ⟨by omega,by omega⟩] at h
    obtain ⟨l',h3,h4⟩:=toks_acc (acc:=[t]) (acc':=[]) (by simpa using h)
    exact .inr ⟨t,j,l',by omega,rfl,by simpa using h3,h4⟩
theorem toks_mk {s:ByteArray}{i j:Nat}{t:Tk}{l:List Tk}(h1:runTo blankB s i<s.size)(ht:tok1 s (runTo blankB s i) = .ok (t,j))(h:toks s j [] = .ok l):toks s i [] = .ok (t::l):=by
 have hge:=runTo_ge blankB s i;have hgt:=tok1_gt (by omega) ht
 rw [toks,if_neg (by omega),ht]
 simp only;rw [dif_pos ⟨by omega,by omega⟩,List.nil_append]
 have:=toks_acc' (acc:=[t]) h;simpa using this
theorem toks_split {s:ByteArray}:∀ (k:Nat) {i:Nat} {l:List Tk},i≤s.size→toks s i [] = .ok l→∀ t,l[k]?=some t→∃ p:Nat,t.pos=p∧i≤p∧p<s.size∧bt s p<128∧toks (s.extract 0 p) i [] = .ok (l.take k)∧toks s p [] = .ok (l.drop k):=by
 intro k
 induction k with
 | zero =>
  intro i l hi h t ht;rcases toks_cons hi h with ⟨_,rfl⟩|⟨t',j,l',h1,h2,rfl,h3⟩
  · simp at ht
  · simp only [List.getElem?_cons_zero,Option.some.injEq] at ht
    subst ht;obtain ⟨hp,hb⟩:=tok1_pos h2;have hge:=runTo_ge blankB s i;have hsz:=size_ext (s:=s) (a:=0) (Nat.le_of_lt h1);refine ⟨_,hp,hge,h1,hb,?_,?_⟩
    · rw [toks,if_pos (by rw [runTo_pre (Nat.le_of_lt h1) hge (Nat.le_refl _)]; omega)]
      rfl
    · rw [List.drop_zero]
      have hr:runTo blankB s (runTo blankB s i)=runTo blankB s i:=runTo_stop (runTo_stops hi);exact toks_mk (by rw [hr]; exact h1) (by rw [hr]; exact h2) h3
 | succ k ih =>
  intro i l hi h t ht;rcases toks_cons hi h with ⟨_,rfl⟩|⟨t',j,l',h1,h2,rfl,h3⟩
  · simp at ht
  · simp only [List.getElem?_cons_succ] at ht
    have hgt:=tok1_gt h1 h2;obtain ⟨p,e1,e2,e3,e4,e5,e6⟩:=ih hgt.2 h3 t ht;have hge:=runTo_ge blankB s i;have hsz:=size_ext (s:=s) (a:=0) (Nat.le_of_lt e3);refine ⟨p,e1,by omega,e3,e4,?_,by rw [List.drop_succ_cons]; exact e6⟩
    have hr:runTo blankB (s.extract 0 p) i=runTo blankB s i:=runTo_pre (Nat.le_of_lt e3) (by omega) (by omega)
    rw [List.take_succ_cons];exact toks_mk (by rw [hr]; omega) (by rw [hr]; exact tok1_pre (Nat.le_of_lt e3) h2 e2 (by omega)) e5
theorem toks_suf {s:ByteArray}{p:Nat}(hp:p≤s.size):∀ (n:Nat) {i:Nat} {l:List Tk},s.size-(p+i)≤n→p+i≤s.size→toks s (p+i) [] = .ok l→toks (s.extract p s.size) i [] = .ok (l.map (Tk.back p)):=by
 have hsz:=size_ext (s:=s) (a:=p) (Nat.le_refl _);intro n
 induction n with
 | zero =>
  intro i l hn hi h;rw [toks_over (by omega)] at h
  cases h;rw [toks_over (by omega)]
  rfl
 | succ n ih =>
  intro i l hn hi h;have hr:=runTo_suf hp (P:=blankB) (i:=i);have hge:=runTo_ge blankB (s.extract p s.size) i;rcases toks_cons hi h with ⟨h1,rfl⟩|⟨t,j,l',h1,h2,rfl,h3⟩
  · rw [toks,if_pos (by omega)]
    rfl
  · rw [←hr] at h1 h2
    have hgt:=tok1_gt h1 h2;obtain ⟨j',rfl,ht⟩:=tok1_suf hp h2 h1;have:=ih (by omega) hgt.2 h3
    exact toks_mk (by omega) ht this
theorem lexS_split {s:ByteArray}{l:List Tk}{a:Int}(h:lexS s=(l,a,0)){k:Nat}{t:Tk}(ht:l[k]?=some t):∃ p:Nat,t.pos=p∧p<s.size∧s.size≤256∧lexS (s.extract 0 p)=(l.take k,0,0)∧lexS (s.extract p s.size)=((l.drop k).map (Tk.back p),0,0):=by
 unfold lexS at h;by_cases h1:256<s.size
 · rw [if_pos h1] at h
   simp at h
 rw [if_neg h1] at h;by_cases h2:0≤bad s 0
 · rw [if_pos h2] at h
   simp at h
 rw [if_neg h2] at h
 cases hk:toks s 0 [] with
 | error f =>
   obtain ⟨b,w⟩:=f;rw [hk] at h;simp only [Prod.mk.injEq] at h;obtain ⟨rfl,_,_⟩:=h;simp at ht
 | ok l' =>
   rw [hk] at h;simp only [Prod.mk.injEq] at h;obtain ⟨rfl,_,_⟩:=h;obtain ⟨p,e1,e2,e3,e4,e5,e6⟩:=toks_split k (Nat.zero_le _) hk t ht;have hbd:bad s 0 = -1:=by rcases bad_ge' s 0 with h|h<;>omega
   obtain ⟨b1,b2⟩:=bad_split e3 e4 (Nat.zero_le _) hbd;have b3:=bad_suf (i:=0) (Nat.le_of_lt e3) b1;have hs1:=size_ext (s:=s) (a:=0) (Nat.le_of_lt e3);have hs2:=size_ext (s:=s) (a:=p) (Nat.le_refl _);have e7:=toks_suf (Nat.le_of_lt e3) s.size (i:=0) (by omega) (by omega) e6
   refine ⟨p,e1,e3,by omega,?_,?_⟩
   · unfold lexS
     rw [if_neg (by omega),b2,if_neg (by decide),e5]
   · unfold lexS
     rw [if_neg (by omega),b3,if_neg (by decide),e7]
end Vai

namespace Vai
open Go
theorem nx_part {s q:ByteArray}{i p:Nat}(h0:(nx s i).2≠0)(hi:i<s.size)(hp:p<q.size)(hb:∀ k,k<(nx s i).2→bt q (p+k)=bt s (i+k)):nx q p=nx s i:=by
 obtain ⟨n2,n3,n4⟩:=nx_need h0;have b0:=hb 0 (by omega)
 simp only [Nat.add_zero] at b0;by_cases h128:bt s i<128
 · rw [nx_ascii hp (by omega),nx_ascii hi h128,b0]
 have:=n2 (by omega)
 refine (nx_congr hi hp b0.symm (fun _=>(hb 1 (by omega)).symm) (fun h224 _ _=>?_) (fun h240 _ _ _=>?_)).symm
 · have:=n3 h224; exact (hb 2 (by omega)).symm
 · have:=n4 h240; exact (hb 3 (by omega)).symm
theorem bt_at {q:ByteArray}{p k:Nat}{L:List UInt8}(h:q.data.toList.drop p=L):bt q (p+k)=(L.getD k 0).toNat:=by
 rw [bt_drop,←List.drop_drop,h,List.getD_eq_getElem?_getD,List.getElem?_drop,Nat.add_zero,List.getD_eq_getElem?_getD]
theorem cut_at {q:ByteArray}{p:Nat}{X Y:List UInt8}(h:q.data.toList.drop p=X++Y):cut q p (p+X.length)=X:=by
 unfold cut;rw [h,show p+X.length-p=X.length by omega,List.take_left]
theorem size_at {q:ByteArray}{p:Nat}{L:List UInt8}(h:q.data.toList.drop p=L)(hne:L≠[]):p+L.length=q.size:=by
 have:=congrArg List.length h;simp only [List.length_drop,len_bytes] at this;have hl:=List.length_pos_iff.2 hne;omega
theorem drop_at {q:ByteArray}{p:Nat}{X Y:List UInt8}(h:q.data.toList.drop p=X++Y):q.data.toList.drop (p+X.length)=Y:=by
 rw [←List.drop_drop,h,List.drop_left]
theorem bad_asc {q:ByteArray}:∀ (n p:Nat),p+n≤q.size→(∀ k,k<n→bt q (p+k)<128)→bad q p=bad q (p+n)
 | 0,p,_,_=>rfl
 | n+1,p,hn,h=>by
  have h0:bt q p<128:=h 0 (by omega)
  rw [bad_step (by omega),nx_ascii (by omega) h0,if_neg (by simp)]
  have:=bad_asc (q:=q) n (p+1) (by omega) fun k hk=>by have:=h (k+1) (by omega); rwa [show p+1+k=p+(k+1) by omega]
  rw [show p+(n+1)=p+1+n by omega]
  exact this
def GoodT (t:Tk):Prop:=(t.kind=1∧t.text=noText∧∃ n:Nat,t.n=n∧n<9223372036854775808)∨(t.kind=2∧t.n=0∧chs t.text 0=true∧t.text.size≤64) ∨
 (t.kind=3∧t.n=0∧t.text.size≤256∧∃ x l,t.text.data.toList=x::l∧letterB x.toNat=true∧∀ b∈l,wordB b.toNat=true) ∨
 (t.kind=4∧t.n=0∧((∃ x y,t.text.data.toList=[x,y]∧((x.toNat=61∧y.toNat=61)∨(x.toNat=33∧y.toNat=61)∨(x.toNat=60∧y.toNat=61)∨(x.toNat=62∧y.toNat=61)∨(x.toNat=38∧y.toNat=38)∨(x.toNat=124∧y.toNat=124))) ∨
  ∃ x,t.text.data.toList=[x]∧(x.toNat=43∨x.toNat=45∨x.toNat=42∨x.toNat=47∨x.toNat=37∨x.toNat=40∨x.toNat=41∨x.toNat=63∨x.toNat=58∨x.toNat=33∨x.toNat=60∨x.toNat=62)))
def wr (t:Tk):List UInt8:=if t.kind=1 then decL t.n else if t.kind=2 then 34::(esc t.text.data.toList ++ [34]) else t.text.data.toList
def catT (sep:List UInt8)(l:List Tk):List UInt8:=l.flatMap fun t=>wr t++sep
def likeT (a b:Tk):Prop:=a.kind=b.kind∧a.text=b.text∧a.n=b.n
theorem toks_blanks {q:ByteArray}:∀ (n p:Nat),p+n≤q.size→(∀ k,k<n→blankB (bt q (p+k))=true)→runTo blankB q p=runTo blankB q (p+n)
 | 0,_,_,_=>rfl
 | n+1,p,hn,h=>by
  have h0:blankB (bt q p)=true:=h 0 (by omega)
  rw [←runTo_step (p:=blankB) (by omega) h0,toks_blanks n (p+1) (by omega) fun k hk=>by have:=h (k+1) (by omega); rwa [show p+1+k=p+(k+1) by omega]]
  rw [show p+1+n=p+(n+1) by omega]
theorem toks_skip {q:ByteArray}{n p:Nat}{l:List Tk}(hn:p+n≤q.size)(h:∀ k,k<n→blankB (bt q (p+k))=true)(ht:toks q (p+n) [] = .ok l):toks q p [] = .ok l:=by
 have hr:=toks_blanks n p hn h;rcases toks_cons hn ht with ⟨h1,rfl⟩|⟨t,j,l',h1,h2,rfl,h3⟩
 · rw [toks,if_pos (by omega)]
 · exact toks_mk (by omega) (by rw [hr]; exact h2) h3
end Vai

namespace Vai
open Go
theorem chs_more {A B:List UInt8}{i:Nat}(hi:i≤A.length)(h:chs ⟨A.toArray⟩ i=true):chs ⟨(A++B).toArray⟩ i=chs ⟨(A++B).toArray⟩ A.length:=by
 have hsA:=size_list A;have hsAB:=size_list (A++B);simp only [List.length_append] at hsAB
 fun_induction chs ⟨A.toArray⟩ i with
 | case1 i h1 =>
  have:i=A.length:=by omega
  rw [this]
 | case2 i h1 h2=>cases h
 | case3 i h1 h2 ih =>
  have hle:=nx_le (s:=⟨A.toArray⟩) (i:=i) (by omega)
  simp only [not_or] at h2;have hnx:nx ⟨(A++B).toArray⟩ i=nx ⟨A.toArray⟩ i:=nx_part h2.1 (by omega) (by omega) fun k hk=>by
   have hlt:i+k<A.length:=by omega
   obtain ⟨b,_,e1,e2⟩:=bt_list_mem hlt;rw [e1];exact bt_list (by rw [List.getElem?_append_left hlt]; exact e2)
  rw [chs_step (by omega),hnx,if_neg (by rintro (h|h); exact h2.1 h; exact h2.2 h)]
  exact ih (by omega) h
theorem chs_snoc {A:List UInt8}{s:ByteArray}{j:Nat}(h:chs ⟨A.toArray⟩ 0=true)(hc:charB (nx s j).1=true):chs ⟨(A++cut s j (j+(nx s j).2)).toArray⟩ 0=true:=by
 have hnc:=nx_char hc;have hcl:=cut_len (i:=j) hnc.2;have hsAB:=size_list (A++cut s j (j+(nx s j).2));simp only [List.length_append,hcl] at hsAB;rw [chs_more (Nat.zero_le _) h];have hnx:nx ⟨(A++cut s j (j+(nx s j).2)).toArray⟩ A.length=nx s j:=nx_part (by omega) (by omega) (by omega) fun k hk=>by
  obtain ⟨b,hb⟩:∃ b,(cut s j (j+(nx s j).2))[k]?=some b:=⟨(cut s j (j+(nx s j).2))[k]'(by omega),List.getElem?_eq_getElem (by omega)⟩
  rw [(cut_get hb).2];exact bt_list (by rw [List.getElem?_append_right (by omega),show A.length+k-A.length=k by omega]; exact hb)
 rw [chs_step (by omega),hnx,if_neg (by rw [hc]; simp; omega),chs_over (by omega)]
theorem txt_chs {s:ByteArray}{fr i:Nat}{out o:List UInt8}{e:Nat}(h:txt s fr i out = .ok (o,e))(hc:chs ⟨out.toArray⟩ 0=true):chs ⟨o.toArray⟩ 0=true:=by
 fun_induction txt s fr i out with
 | case1=>cases h
 | case2 i out h1 h2=>cases h; exact hc
 | case3=>cases h
 | case4=>cases h
 | case5 i out h1 h2 h3 h4 h5 hc2 ih=>exact ih h (chs_snoc hc hc2)
 | case6=>cases h
 | case7 i out h1 h2 h3 hc2 ih=>exact ih h (chs_snoc hc hc2)
 | case8=>cases h
theorem ext_bytes {s:ByteArray}{i j:Nat}(h:i≤j):(s.extract i j).data.toList=cut s i j:=by rw [extract_cut h]
theorem tok1_good {s:ByteArray}{i j:Nat}{t:Tk}(hs:s.size≤256)(hi:i<s.size)(h:tok1 s i = .ok (t,j)):GoodT t:=by
 obtain ⟨x,hx⟩:=drop_head hi;obtain ⟨_,hb⟩:=bt_head hx;unfold tok1 at h;split at h
 · rename_i h1
   cases hn:numS (cut s i (runTo digitB s i)) with
   | none=>rw [hn] at h; cases h
   | some n =>
     rw [hn] at h;cases h;unfold numS at hn;split at hn
     · rename_i h2
       cases hn;exact .inl ⟨rfl,rfl,_,rfl,h2.1⟩
     · cases hn
 split at h
 · rename_i h1
   have hw:wordB (bt s i)=true:=by simp [wordB,h1]
   have hge:=runTo_ge wordB s (i+1);rw [runTo_step hi hw] at hge;have hle:=runTo_le (p:=wordB) (s:=s) (i:=i) (by omega)
   have hall:=cut_all (p:=wordB) (s:=s) (i:=i);cases h;refine .inr (.inr (.inl ⟨rfl,rfl,?_,x,cut s (i+1) (runTo wordB s i),?_,by rw [←hb]; exact h1,fun b hbm=>?_⟩))
   · rw [size_ext hle]; omega
   · rw [ext_bytes (by omega)]
     obtain ⟨n,hn⟩:∃ n,runTo wordB s i=i+(n+1):=⟨runTo wordB s i-i-1,by omega⟩
     rw [hn,cut_succ hx,show i+1+n=i+(n+1) by omega]
   · apply hall
     obtain ⟨n,hn⟩:∃ n,runTo wordB s i=i+(n+1):=⟨runTo wordB s i-i-1,by omega⟩
     rw [hn,cut_succ hx];rw [hn,show i+(n+1)=i+1+n by omega] at hbm
     exact List.mem_cons_of_mem _ hbm
 split at h
 · rename_i h1
   cases ht:txt s i (i+1) [] with
   | error f=>rw [ht] at h; cases h
   | ok oe =>
     obtain ⟨o,e⟩:=oe;rw [ht] at h;simp only at h;by_cases h64:64<o.length
     · rw [if_pos h64] at h; cases h
     · rw [if_neg h64] at h
       cases h;refine .inr (.inl ⟨rfl,rfl,txt_chs ht (chs_over (by rw [size_list]; exact Nat.le_refl _)),?_⟩)
       rw [size_list]; omega
 split at h
 · cases h
 · rename_i h1
   cases h;refine .inr (.inr (.inr ⟨rfl,rfl,?_⟩));unfold signL at h1 ⊢;split
   · rename_i h2
     obtain ⟨y,hy⟩:=drop_head (s:=s) (i:=i+1) (by omega)
     obtain ⟨_,hby⟩:=bt_head hy;refine .inl ⟨x,y,?_,?_⟩
     · simp only
       rw [ext_bytes (by omega),show i+2=i+(1+1) from rfl,cut_succ hx,cut_one' hy]
     · rw [←hb,←hby]; exact h2.2
   · rename_i h2
     rw [if_neg h2] at h1;split
     · rename_i h3
       refine .inr ⟨x,?_,?_⟩
       · simp only
         rw [ext_bytes (by omega),cut_one' hx]
       · rw [←hb]; exact h3
     · rename_i h3
       rw [if_neg h3] at h1;exact absurd rfl h1
theorem toks_good {s:ByteArray}(hs:s.size≤256):∀ (n:Nat) {i:Nat} {l:List Tk},s.size-i≤n→i≤s.size→toks s i [] = .ok l→∀ t∈l,GoodT t:=by
 intro n
 induction n with
 | zero =>
  intro i l hn hi h;rw [toks_over (by omega)] at h
  cases h;intro t ht; cases ht
 | succ n ih =>
  intro i l hn hi h t ht;have hge:=runTo_ge blankB s i;rcases toks_cons hi h with ⟨_,rfl⟩|⟨t',j,l',h1,h2,rfl,h3⟩
  · cases ht
  · have hgt:=tok1_gt h1 h2
    rcases List.mem_cons.1 ht with rfl|ht
    · exact tok1_good hs h1 h2
    · exact ih (by omega) hgt.2 h3 t ht
theorem lexS_good (s:ByteArray):∀ t∈(lexS s).1,GoodT t:=by
 unfold lexS;split
 · intro t ht; cases ht
 split
 · intro t ht; cases ht
 cases h:toks s 0 [] with
 | error f=>intro t ht; cases ht
 | ok l=>exact toks_good (by omega) s.size (by omega) (Nat.zero_le _) h
end Vai

namespace Vai
open Go
theorem get_bt (s:ByteArray)(j:Nat):(s.get! j).toNat=bt s j:=by
 cases s with
 | mk d =>
  show (d[j]!).toNat=match d[j]? with|some b=>b.toNat|none=>0
  rw [getElem!_def];cases h:d[j]?<;>rfl
theorem cont_bt (s:ByteArray)(j:Nat):(decide (j<s.size)&&bt s j/64 == 2)=contB (bt s j):=by
 by_cases h:contB (bt s j)=true
 · rw [h]
   have:=cont_lt h;simp only [contB] at h;simp [this,h]
 · have h':contB (bt s j)=false:=by simpa using h
   rw [h'];simp only [contB] at h';simp [h']
theorem dec_nx {s:ByteArray}{i:Nat}(h:(nx s i).2≠0):((Utf8.decode s i).1:Int)=(nx s i).1∧(Utf8.decode s i).2=(nx s i).2:=by
 unfold Utf8.decode;simp only [get_bt,cont_bt,Nat.add_zero];unfold nx at h ⊢;by_cases c0:s.size≤i
 · rw [if_pos c0] at h; exact absurd rfl h
 rw [if_neg c0] at h ⊢;simp only at h ⊢;by_cases c1:bt s i<128
 · rw [if_pos c1,if_pos c1]; exact ⟨rfl,rfl⟩
 rw [if_neg c1] at h ⊢;rw [if_neg c1];by_cases c2:bt s i<192
 · rw [if_pos c2] at h; exact absurd rfl h
 rw [if_neg c2] at h ⊢;by_cases c3:bt s i<224
 · rw [if_pos c3] at h ⊢
   by_cases g:i+2≤s.size∧contB (bt s (i+1))=true∧128≤bt s i%32*64+bt s (i+1)%64
   · rw [if_pos g]
     have e:bt s i/32=6:=by omega
     rw [if_pos (by simp [e,g.2.1]),if_pos g.2.2]
     exact ⟨rfl,rfl⟩
   · rw [if_neg g] at h; exact absurd rfl h
 rw [if_neg c3] at h ⊢;have e6:¬ bt s i/32=6:=by omega
 rw [if_neg (by simp [e6])]
 by_cases c4:bt s i<240
 · rw [if_pos c4] at h ⊢
   by_cases g:i+3≤s.size∧contB (bt s (i+1))=true∧contB (bt s (i+2))=true∧2048≤bt s i%16*4096+bt s (i+1)%64*64+bt s (i+2)%64∧(bt s i%16*4096+bt s (i+1)%64*64+bt s (i+2)%64<55296∨57343<bt s i%16*4096+bt s (i+1)%64*64+bt s (i+2)%64)
   · rw [if_pos g]
     have e:bt s i/16=14:=by omega
     rw [if_pos (by simp [e,g.2.1,g.2.2.1])]
     have hv:(decide (bt s i%16*4096+bt s (i+1)%64*64+bt s (i+2)%64≥2048)&&Utf8.valid (bt s i%16*4096+bt s (i+1)%64*64+bt s (i+2)%64:Nat))=true:=by
      have g1:=g.2.2.2.1;have g2:=g.2.2.2.2;simp [Utf8.valid];omega
     rw [if_pos hv];exact ⟨rfl,rfl⟩
   · rw [if_neg g] at h; exact absurd rfl h
 rw [if_neg c4] at h ⊢;have e14:¬ bt s i/16=14:=by omega
 rw [if_neg (by simp [e14])]
 by_cases c5:bt s i<248
 · rw [if_pos c5] at h ⊢
   by_cases g:i+4≤s.size∧contB (bt s (i+1))=true∧contB (bt s (i+2))=true∧contB (bt s (i+3))=true∧65536≤bt s i%8*262144+bt s (i+1)%64*4096+bt s (i+2)%64*64+bt s (i+3)%64∧bt s i%8*262144+bt s (i+1)%64*4096+bt s (i+2)%64*64+bt s (i+3)%64≤1114111
   · rw [if_pos g]
     have e:bt s i/8=30:=by omega
     rw [if_pos (by simp [e,g.2.1,g.2.2.1,g.2.2.2.1])]
     have hv:(decide (bt s i%8*262144+bt s (i+1)%64*4096+bt s (i+2)%64*64+bt s (i+3)%64≥65536)&&Utf8.valid (bt s i%8*262144+bt s (i+1)%64*4096+bt s (i+2)%64*64+bt s (i+3)%64:Nat))=true:=by
      have g1:=g.2.2.2.2.1;have g2:=g.2.2.2.2.2;simp [Utf8.valid];omega
     rw [if_pos hv];exact ⟨rfl,rfl⟩
   · rw [if_neg g] at h; exact absurd rfl h
 rw [if_neg c5] at h;exact absurd rfl h
theorem bad_chs {s:ByteArray}{i:Nat}(h:0≤bad s i):chs s i=false:=by
 fun_induction bad s i with
 | case1=>omega
 | case2 i h1 h2=>rw [chs_step (by omega),if_pos (.inl h2)]
 | case3 i h1 h2 ih =>
  rw [chs_step (by omega)]
  by_cases hc:charB (nx s i).1=false
  · rw [if_pos (.inr hc)]
  · rw [if_neg (by rintro (h|h); exact h2 h; exact hc h)]
    exact ih h
end Vai

namespace Go.Proofs.YtaldobgfbkllfaaGreatDoor
open Vai
theorem tk2:tk Tryz.prog 2 = .int .i64:=by kernel_rfl
theorem sz2:sz Tryz.prog 2=some 1:=by kernel_rfl
theorem tk3:tk Tryz.prog 3 = .int .i64:=by kernel_rfl
theorem sz3:sz Tryz.prog 3=some 1:=by kernel_rfl
theorem byt3:byt Tryz.prog 3=some 8:=by kernel_rfl
theorem zero3:zeroT Tryz.prog 3=some (.int .i64 0):=by kernel_rfl
theorem tk4:tk Tryz.prog 4 = .bool:=by kernel_rfl
theorem zero4:zeroT Tryz.prog 4=some (.bool false):=by kernel_rfl
theorem tk5:tk Tryz.prog 5 = .int .u8:=by kernel_rfl
theorem sz5:sz Tryz.prog 5=some 1:=by kernel_rfl
theorem byt5:byt Tryz.prog 5=some 1:=by kernel_rfl
theorem zero5:zeroT Tryz.prog 5=some (.int .u8 0):=by kernel_rfl
theorem tk9:tk Tryz.prog 9 = .str:=by kernel_rfl
theorem sz9:sz Tryz.prog 9=some 1:=by kernel_rfl
theorem zero9:zeroT Tryz.prog 9=some (.str ⟨#[]⟩):=by kernel_rfl
theorem tk20:tk Tryz.prog 20 = .iface:=by kernel_rfl
theorem tk21:tk Tryz.prog 21 = .int .i32:=by kernel_rfl
theorem sz21:sz Tryz.prog 21=some 1:=by kernel_rfl
theorem tk22:tk Tryz.prog 22 = .slice 57:=by kernel_rfl
theorem sz22:sz Tryz.prog 22=some 1:=by kernel_rfl
theorem tk23:tk Tryz.prog 23 = .slice 38:=by kernel_rfl
theorem sz23:sz Tryz.prog 23=some 1:=by kernel_rfl
theorem tk26:tk Tryz.prog 26 = .struct [(0,3),(1,2),(2,9)]:=by kernel_rfl
theorem sz26:sz Tryz.prog 26=some 3:=by kernel_rfl
theorem zero26:zeroT Tryz.prog 26=some (.agg [.int .i64 0,.int .i64 0,.str ⟨#[]⟩]):=by kernel_rfl
theorem tk27:tk Tryz.prog 27 = .int .i64:=by kernel_rfl
theorem sz27:sz Tryz.prog 27=some 1:=by kernel_rfl
theorem tk32:tk Tryz.prog 32 = .slice 35:=by kernel_rfl
theorem tk35:tk Tryz.prog 35 = .struct [(0,9),(1,3)]:=by kernel_rfl
theorem sz35:sz Tryz.prog 35=some 2:=by kernel_rfl
theorem byt35:byt Tryz.prog 35=some 24:=by kernel_rfl
theorem zero35:zeroT Tryz.prog 35=some (.agg [.str ⟨#[]⟩,.int .i64 0]):=by kernel_rfl
theorem tk38:tk Tryz.prog 38 = .struct [(0,9),(1,26)]:=by kernel_rfl
theorem sz38:sz Tryz.prog 38=some 4:=by kernel_rfl
theorem zero38:zeroT Tryz.prog 38=some (.agg [.str ⟨#[]⟩,.int .i64 0,.int .i64 0,.str ⟨#[]⟩]):=by kernel_rfl
theorem tk57:tk Tryz.prog 57 = .struct [(0,3),(1,3),(2,3),(3,3),(4,26),(7,9),(8,3)]:=by kernel_rfl
theorem sz57:sz Tryz.prog 57=some 9:=by kernel_rfl
theorem byt57:byt Tryz.prog 57=some 88:=by kernel_rfl
theorem zero57:zeroT Tryz.prog 57=some (.agg [.int .i64 0,.int .i64 0,.int .i64 0,.int .i64 0,.int .i64 0,.int .i64 0,.str ⟨#[]⟩,.str ⟨#[]⟩,.int .i64 0]):=by kernel_rfl
theorem tk60:tk Tryz.prog 60 = .slice 3:=by kernel_rfl
theorem sz60:sz Tryz.prog 60=some 1:=by kernel_rfl
theorem zero60:zeroT Tryz.prog 60=some (.nilSlice):=by kernel_rfl
theorem tk64:tk Tryz.prog 64 = .struct [(0,3),(1,3)]:=by kernel_rfl
theorem sz64:sz Tryz.prog 64=some 2:=by kernel_rfl
theorem zero64:zeroT Tryz.prog 64=some (.agg [.int .i64 0,.int .i64 0]):=by kernel_rfl
theorem tk77:tk Tryz.prog 77 = .struct [(0,22),(1,23)]:=by kernel_rfl
theorem sz77:sz Tryz.prog 77=some 2:=by kernel_rfl
theorem zero77:zeroT Tryz.prog 77=some (.agg [.nilSlice,.nilSlice]):=by kernel_rfl
theorem tk80:tk Tryz.prog 80 = .slice 134:=by kernel_rfl
theorem sz80:sz Tryz.prog 80=some 1:=by kernel_rfl
theorem tk85:tk Tryz.prog 85 = .struct [(0,9),(1,80),(2,3),(3,22)]:=by kernel_rfl
theorem sz85:sz Tryz.prog 85=some 4:=by kernel_rfl
theorem zero85:zeroT Tryz.prog 85=some (.agg [.str ⟨#[]⟩,.nilSlice,.int .i64 0,.nilSlice]):=by kernel_rfl
theorem tk87:tk Tryz.prog 87 = .struct [(0,3),(1,27)]:=by kernel_rfl
theorem sz87:sz Tryz.prog 87=some 2:=by kernel_rfl
theorem zero87:zeroT Tryz.prog 87=some (.agg [.int .i64 0,.int .i64 0]):=by kernel_rfl
theorem tk90:tk Tryz.prog 90 = .func:=by kernel_rfl
theorem sz90:sz Tryz.prog 90=some 1:=by kernel_rfl
theorem tk94:tk Tryz.prog 94 = .slice 9:=by kernel_rfl
theorem tk101:tk Tryz.prog 101 = .struct [(0,3),(1,80),(2,3),(3,3),(4,22),(5,64)]:=by kernel_rfl
theorem tk114:tk Tryz.prog 114 = .array 3 3:=by kernel_rfl
theorem sz114:sz Tryz.prog 114=some 3:=by kernel_rfl
theorem zero114:zeroT Tryz.prog 114=some (.agg [.int .i64 0,.int .i64 0,.int .i64 0]):=by kernel_rfl
theorem tk118:tk Tryz.prog 118 = .ptr 120:=by kernel_rfl
theorem sz118:sz Tryz.prog 118=some 1:=by kernel_rfl
theorem tk120:tk Tryz.prog 120 = .struct [(0,9),(1,3),(2,80)]:=by kernel_rfl
theorem sz120:sz Tryz.prog 120=some 3:=by kernel_rfl
theorem zero120:zeroT Tryz.prog 120=some (.agg [.str ⟨#[]⟩,.int .i64 0,.nilSlice]):=by kernel_rfl
theorem tk134:tk Tryz.prog 134 = .struct [(0,3),(1,9),(2,2),(3,3)]:=by kernel_rfl
theorem sz134:sz Tryz.prog 134=some 4:=by kernel_rfl
theorem byt134:byt Tryz.prog 134=some 40:=by kernel_rfl
theorem zero134:zeroT Tryz.prog 134=some (.agg [.int .i64 0,.str ⟨#[]⟩,.int .i64 0,.int .i64 0]):=by kernel_rfl
theorem tk146:tk Tryz.prog 146 = .int .u64:=by kernel_rfl
theorem tk150:tk Tryz.prog 150 = .func:=by kernel_rfl
theorem zero150:zeroT Tryz.prog 150=some (.nilFunc):=by kernel_rfl
theorem tk151:tk Tryz.prog 151 = .map 3 150:=by kernel_rfl
theorem tk163:tk Tryz.prog 163 = .slice 5:=by kernel_rfl
theorem tk170:tk Tryz.prog 170 = .int .u64:=by kernel_rfl
theorem tk174:tk Tryz.prog 174 = .map 3 4:=by kernel_rfl
theorem tk181:tk Tryz.prog 181 = .iface:=by kernel_rfl
theorem tk191:tk Tryz.prog 191 = .int .u32:=by kernel_rfl
theorem tk279:tk Tryz.prog 279 = .map 9 3:=by kernel_rfl
attribute [simp] tk2 sz2 tk3 sz3 byt3 zero3 tk4 zero4 tk5 sz5 byt5 zero5 tk9 sz9 zero9 tk20 tk21 sz21 tk22 sz22 tk23 sz23 tk26 sz26 zero26 tk27 sz27 tk32 tk35 sz35 byt35 zero35 tk38 sz38 zero38 tk57 sz57 byt57 zero57 tk60 sz60 zero60 tk64 sz64 zero64 tk77 sz77 zero77 tk80 sz80 tk85 sz85 zero85 tk87 sz87 zero87 tk90 sz90 tk94 tk101 tk114 sz114 zero114 tk118 sz118 tk120 sz120 zero120 tk134 sz134 byt134 zero134 tk146 tk150 zero150 tk151 tk163 tk170 tk174 tk181 tk191 tk279
def md:FuncId→FuncId→Vai.Mode:=fun c k=>if [19,28,40,41,42,48,50,51,52,60,61,62,64,71,73,74,75,76,77,78,91,92,93,94,95,96,99,100,101,102,107,118,120,122,123,124,125,126,127,128,129,130,133,138,154,155,156,157,158,168,173,188,205,215,226,235].contains k||(c == 55&&k == 98)||(c == 9&&k == 20)||(c == 11&&k == 20)||(c == 13&&k == 30) then .keep else if c == 30&&k == 55 then .own else if (c == 29&&k == 53)||(c == 31&&k == 57) then .tree else .pure
def lits:TypeId→Bool:=fun t=>[22,23,32,60,80,94].contains t
def hards:FuncId→Nat→Option (List (Nat × Nat)):=fun k i=>if k == 20&&i == 12 then some [(0,1)] else if k == 26&&i == 14 then some [(0,1)] else if k == 31&&i == 11 then some [(2,1),(3,1),(4,1),(6,1),(7,1),(8,1)] else if k == 35&&i == 15 then some [(0,1),(1,1),(2,1)] else if k == 35&&i == 17 then some [(0,1),(1,1),(2,1)] else if k == 35&&i == 19 then some [(0,1),(0,2),(1,1),(1,2),(2,1),(2,2),(8,0),(9,0)] else if k == 37&&i == 8 then some [(2,1),(3,1),(4,1),(7,1),(8,1),(9,1),(12,1),(13,1),(14,1)] else if k == 41&&i == 34 then some [(6,1),(7,1),(8,1),(10,4)] else if k == 44&&i == 3 then some [(1,1),(2,1)] else if k == 83&&i == 8 then some [(2,0),(3,0)] else if k == 91&&i == 15 then some [(1,1),(2,1),(3,1),(5,1),(6,1),(7,1),(8,1),(9,1)] else if k == 95&&i == 1 then some [(2,1),(3,1),(4,1)] else if k == 106&&i == 4 then some [(1,1)] else if k == 120&&i == 1 then some [(2,1),(3,1),(4,1)] else if k == 128&&i == 1 then some [(2,1),(3,1),(4,1)] else if k == 153&&i == 7 then some [(0,1),(1,1),(2,1),(3,1)] else if k == 153&&i == 9 then some [(0,1),(0,2),(1,1),(1,2),(2,1),(2,2),(3,1),(3,2)] else if k == 153&&i == 10 then some [(0,1),(0,2),(0,3),(1,1),(1,2),(1,3),(2,1),(2,2),(2,3),(3,1),(3,2),(3,3)] else if k == 226&&i == 5 then some [(0,1),(1,1)] else if k == 65&&i == 2 then some [(1,0),(2,0)] else none
noncomputable def cx:Cx:=⟨Tryz.prog,md,lits,hards⟩
def parseA:ACall:=fun _ args h=>match args with
 | [.t (.str s),.t (.int .i64 b),.t (.int .i64 z)]=>if b=10∧z=64∧s.size≤1000000000 then match Lib.parseIntB 64 s.data.toList with
   | .ok v=>some (.tup [.t (.int .i64 v),.t .nilIface],h)
   | _=>some (.tup [.undef,.iface 220 .undef],h)
  else none
 | _=>none
def decF:Nat→Nat→List UInt8
 | 0,_=>[]
 | f+1,n=>if n<10 then [UInt8.ofNat (48+n)] else decF f (n/10) ++ [UInt8.ofNat (48+n%10)]
def itoaF (n:Int):List UInt8:=if n<0 then 45::decF 20 n.natAbs else decF 20 n.toNat
def fmtA:ACall:=fun _ args h=>match args with
 | [.t (.int .i64 n),.t (.int .i64 b)]=>if b=10 ∧ -9223372036854775808≤n∧n≤9223372036854775807 then some (.t (.str ⟨(itoaF n).toArray⟩),h) else none
 | _=>none
def cmpA:ACall:=fun _ args h=>match args with
 | [.t (.str a),.t (.str b)]=>some (.t (.int .i64 (Lib.compareBytes a.data.toList b.data.toList)),h)
 | _=>none
def prim0:FuncId→Option ACall:=fun k=>if k=154 then some parseA else if k=133 then some fmtA else if k=101 then some cmpA else if k=40 then some (fun _ _ _=>none) else none
def okT:Nat:=4081802742770806847995345542047501904553742180423943267649582191557428017380086540088115196
noncomputable def c0 [Gl]:ACall:=callQ cx okT prim0 100000
def seqL:Code→Code|.seq a _=>a|c=>c
def seqR:Code→Code|.seq _ b=>b|c=>c
def regOps:Code→Array Oper|.region _ ops _=>ops|_=>#[]
noncomputable def G40:Grd:=⟨40,74,Tryz.f40,Tryz.f74,2,3,seqL (bodyOf Tryz.f40),seqR (seqR (bodyOf Tryz.f40)),4,1,seqR (bodyOf Tryz.f74)⟩
noncomputable def A26:Alt:=⟨26,Tryz.f26,seqL (bodyOf Tryz.f26),seqL (seqR (bodyOf Tryz.f26)),regOps (seqL (seqR (seqR (bodyOf Tryz.f26)))),seqR (seqR (seqR (bodyOf Tryz.f26)))⟩
def ords26:List (List Nat):=[[0,1,3,4,2,5,6,7,8],[0,1,3,4,2,6,5,7,8],[0,1,3,4,2,6,7,5,8],[0,1,3,4,5,2,6,7,8],[0,1,3,4,5,6,2,7,8],[0,1,3,4,6,2,5,7,8],[0,1,3,4,6,2,7,5,8],[0,1,3,4,6,5,2,7,8]]
noncomputable def primQ [Gl]:FuncId→Option ACall:=fun k=>if k=40 then some (guardA cx c0 (iter 100000) G40) else if k=26 then some (altA cx c0 (iter 100000) A26 ords26) else prim0 k
noncomputable def prim [Gl]:FuncId→Option ACall:=fun k=>if k=40 then some (guardA cx (call cx prim0) loopω G40) else if k=26 then some (altA cx (call cx prim0) loopω A26 ords26) else prim0 k
theorem cxP (k:FuncId):(cx.at k).P=Tryz.prog:=rfl
theorem cxlit (k:FuncId)(t:TypeId):(cx.at k).lit t=lits t:=rfl
theorem cxmd (k j:FuncId):(cx.at k).md j=md k j:=rfl
theorem lits_def (t:TypeId):lits t=([22,23,32,60,80,94].contains t):=rfl
theorem cxP0:cx.P=Tryz.prog:=rfl
theorem cxhard (k:FuncId)(i:Nat):(cx.at k).hard i=hards k i:=rfl
attribute [simp] cxhard hards cxP0 cxP cxlit cxmd lits_def
theorem ok2:okFunc (cx.at 2) Tryz.f2=true:=by kernel_rfl
theorem ok3:okFunc (cx.at 3) Tryz.f3=true:=by kernel_rfl
theorem ok6:okFunc (cx.at 6) Tryz.f6=true:=by kernel_rfl
theorem nd6:(loopIds (bodyOf Tryz.f6)).Nodup:=by decide +kernel
theorem ok9:okFunc (cx.at 9) Tryz.f9=true:=by kernel_rfl
theorem nd9:(loopIds (bodyOf Tryz.f9)).Nodup:=by decide +kernel
theorem ok10:okFunc (cx.at 10) Tryz.f10=true:=by kernel_rfl
theorem nd10:(loopIds (bodyOf Tryz.f10)).Nodup:=by decide +kernel
theorem cb14:callable Tryz.prog 14=true:=by kernel_rfl
theorem ok14:okFunc (cx.at 14) Tryz.f14=true:=by kernel_rfl
theorem nd14:(loopIds (bodyOf Tryz.f14)).Nodup:=by decide +kernel
theorem cb15:callable Tryz.prog 15=true:=by kernel_rfl
theorem ok15:okFunc (cx.at 15) Tryz.f15=true:=by kernel_rfl
theorem nd15:(loopIds (bodyOf Tryz.f15)).Nodup:=by decide +kernel
theorem cb17:callable Tryz.prog 17=true:=by kernel_rfl
theorem ok17:okFunc (cx.at 17) Tryz.f17=true:=by kernel_rfl
theorem nd17:(loopIds (bodyOf Tryz.f17)).Nodup:=by decide +kernel
theorem cb19:callable Tryz.prog 19=true:=by kernel_rfl
theorem ok19:okFunc (cx.at 19) Tryz.f19=true:=by kernel_rfl
theorem nd19:(loopIds (bodyOf Tryz.f19)).Nodup:=by decide +kernel
theorem cb20:callable Tryz.prog 20=true:=by kernel_rfl
theorem ok20:okFunc (cx.at 20) Tryz.f20=true:=by kernel_rfl
theorem nd20:(loopIds (bodyOf Tryz.f20)).Nodup:=by decide +kernel
theorem cb21:callable Tryz.prog 21=true:=by kernel_rfl
theorem ok21:okFunc (cx.at 21) Tryz.f21=true:=by kernel_rfl
theorem nd21:(loopIds (bodyOf Tryz.f21)).Nodup:=by decide +kernel
theorem cb23:callable Tryz.prog 23=true:=by kernel_rfl
theorem ok23:okFunc (cx.at 23) Tryz.f23=true:=by kernel_rfl
theorem nd23:(loopIds (bodyOf Tryz.f23)).Nodup:=by decide +kernel
theorem cb24:callable Tryz.prog 24=true:=by kernel_rfl
theorem cb26:callable Tryz.prog 26=true:=by kernel_rfl
-- 26 pavane/formula.Kind: not in order: [region 3: [(1,2),(1,3),(4,0),(4,3),(4,4)]; fits false,region 14: [(0,1)]; fits true]
theorem cb27:callable Tryz.prog 27=true:=by kernel_rfl
theorem ok27:okFunc (cx.at 27) Tryz.f27=true:=by kernel_rfl
theorem nd27:(loopIds (bodyOf Tryz.f27)).Nodup:=by decide +kernel
theorem cb28:callable Tryz.prog 28=true:=by kernel_rfl
theorem ok28:okFunc (cx.at 28) Tryz.f28=true:=by kernel_rfl
theorem nd28:(loopIds (bodyOf Tryz.f28)).Nodup:=by decide +kernel
theorem cb33:callable Tryz.prog 33=true:=by kernel_rfl
theorem cb34:callable Tryz.prog 34=true:=by kernel_rfl
theorem ok34:okFunc (cx.at 34) Tryz.f34=true:=by kernel_rfl
theorem nd34:(loopIds (bodyOf Tryz.f34)).Nodup:=by decide +kernel
theorem cb35:callable Tryz.prog 35=true:=by kernel_rfl
theorem ok35:okFunc (cx.at 35) Tryz.f35=true:=by kernel_rfl
theorem nd35:(loopIds (bodyOf Tryz.f35)).Nodup:=by decide +kernel
theorem cb37:callable Tryz.prog 37=true:=by kernel_rfl
theorem ok37:okFunc (cx.at 37) Tryz.f37=true:=by kernel_rfl
theorem nd37:(loopIds (bodyOf Tryz.f37)).Nodup:=by decide +kernel
theorem cb38:callable Tryz.prog 38=true:=by kernel_rfl
theorem ok38:okFunc (cx.at 38) Tryz.f38=true:=by kernel_rfl
theorem nd38:(loopIds (bodyOf Tryz.f38)).Nodup:=by decide +kernel
theorem cb39:callable Tryz.prog 39=true:=by kernel_rfl
theorem ok39:okFunc (cx.at 39) Tryz.f39=true:=by kernel_rfl
theorem nd39:(loopIds (bodyOf Tryz.f39)).Nodup:=by decide +kernel
theorem cb40:callable Tryz.prog 40=true:=by kernel_rfl
theorem nd40:(loopIds (bodyOf Tryz.f40)).Nodup:=by decide +kernel
theorem cb41:callable Tryz.prog 41=true:=by kernel_rfl
theorem ok41:okFunc (cx.at 41) Tryz.f41=true:=by kernel_rfl
theorem nd41:(loopIds (bodyOf Tryz.f41)).Nodup:=by decide +kernel
theorem cb42:callable Tryz.prog 42=true:=by kernel_rfl
theorem ok42:okFunc (cx.at 42) Tryz.f42=true:=by kernel_rfl
theorem nd42:(loopIds (bodyOf Tryz.f42)).Nodup:=by decide +kernel
theorem cb43:callable Tryz.prog 43=true:=by kernel_rfl
theorem ok43:okFunc (cx.at 43) Tryz.f43=true:=by kernel_rfl
theorem nd43:(loopIds (bodyOf Tryz.f43)).Nodup:=by decide +kernel
theorem cb45:callable Tryz.prog 45=true:=by kernel_rfl
theorem ok45:okFunc (cx.at 45) Tryz.f45=true:=by kernel_rfl
theorem nd45:(loopIds (bodyOf Tryz.f45)).Nodup:=by decide +kernel
theorem cb47:callable Tryz.prog 47=true:=by kernel_rfl
theorem ok47:okFunc (cx.at 47) Tryz.f47=true:=by kernel_rfl
theorem nd47:(loopIds (bodyOf Tryz.f47)).Nodup:=by decide +kernel
theorem cb48:callable Tryz.prog 48=true:=by kernel_rfl
theorem ok48:okFunc (cx.at 48) Tryz.f48=true:=by kernel_rfl
theorem nd48:(loopIds (bodyOf Tryz.f48)).Nodup:=by decide +kernel
theorem cb51:callable Tryz.prog 51=true:=by kernel_rfl
theorem ok51:okFunc (cx.at 51) Tryz.f51=true:=by kernel_rfl
theorem nd51:(loopIds (bodyOf Tryz.f51)).Nodup:=by decide +kernel
theorem cb53:callable Tryz.prog 53=true:=by kernel_rfl
theorem ok53:okFunc (cx.at 53) Tryz.f53=true:=by kernel_rfl
theorem nd53:(loopIds (bodyOf Tryz.f53)).Nodup:=by decide +kernel
theorem cb54:callable Tryz.prog 54=true:=by kernel_rfl
theorem ok54:okFunc (cx.at 54) Tryz.f54=true:=by kernel_rfl
theorem nd54:(loopIds (bodyOf Tryz.f54)).Nodup:=by decide +kernel
theorem cb56:callable Tryz.prog 56=true:=by kernel_rfl
theorem ok56:okFunc (cx.at 56) Tryz.f56=true:=by kernel_rfl
theorem nd56:(loopIds (bodyOf Tryz.f56)).Nodup:=by decide +kernel
theorem cb58:callable Tryz.prog 58=true:=by kernel_rfl
theorem ok58:okFunc (cx.at 58) Tryz.f58=true:=by kernel_rfl
theorem nd58:(loopIds (bodyOf Tryz.f58)).Nodup:=by decide +kernel
theorem cb59:callable Tryz.prog 59=true:=by kernel_rfl
theorem ok59:okFunc (cx.at 59) Tryz.f59=true:=by kernel_rfl
theorem nd59:(loopIds (bodyOf Tryz.f59)).Nodup:=by decide +kernel
theorem cb60:callable Tryz.prog 60=true:=by kernel_rfl
theorem ok60:okFunc (cx.at 60) Tryz.f60=true:=by kernel_rfl
theorem nd60:(loopIds (bodyOf Tryz.f60)).Nodup:=by decide +kernel
theorem cb61:callable Tryz.prog 61=true:=by kernel_rfl
theorem ok61:okFunc (cx.at 61) Tryz.f61=true:=by kernel_rfl
theorem nd61:(loopIds (bodyOf Tryz.f61)).Nodup:=by decide +kernel
theorem cb62:callable Tryz.prog 62=true:=by kernel_rfl
theorem ok62:okFunc (cx.at 62) Tryz.f62=true:=by kernel_rfl
theorem nd62:(loopIds (bodyOf Tryz.f62)).Nodup:=by decide +kernel
theorem cb63:callable Tryz.prog 63=true:=by kernel_rfl
theorem ok63:okFunc (cx.at 63) Tryz.f63=true:=by kernel_rfl
theorem nd63:(loopIds (bodyOf Tryz.f63)).Nodup:=by decide +kernel
theorem cb64:callable Tryz.prog 64=true:=by kernel_rfl
theorem ok64:okFunc (cx.at 64) Tryz.f64=true:=by kernel_rfl
theorem nd64:(loopIds (bodyOf Tryz.f64)).Nodup:=by decide +kernel
theorem cb65:callable Tryz.prog 65=true:=by kernel_rfl
theorem ok65:okFunc (cx.at 65) Tryz.f65=true:=by kernel_rfl
theorem nd65:(loopIds (bodyOf Tryz.f65)).Nodup:=by decide +kernel
theorem cb67:callable Tryz.prog 67=true:=by kernel_rfl
theorem ok67:okFunc (cx.at 67) Tryz.f67=true:=by kernel_rfl
theorem nd67:(loopIds (bodyOf Tryz.f67)).Nodup:=by decide +kernel
theorem cb68:callable Tryz.prog 68=true:=by kernel_rfl
theorem ok68:okFunc (cx.at 68) Tryz.f68=true:=by kernel_rfl
theorem nd68:(loopIds (bodyOf Tryz.f68)).Nodup:=by decide +kernel
theorem cb69:callable Tryz.prog 69=true:=by kernel_rfl
theorem ok69:okFunc (cx.at 69) Tryz.f69=true:=by kernel_rfl
theorem nd69:(loopIds (bodyOf Tryz.f69)).Nodup:=by decide +kernel
theorem cb70:callable Tryz.prog 70=true:=by kernel_rfl
theorem ok70:okFunc (cx.at 70) Tryz.f70=true:=by kernel_rfl
theorem nd70:(loopIds (bodyOf Tryz.f70)).Nodup:=by decide +kernel
theorem cb71:callable Tryz.prog 71=true:=by kernel_rfl
theorem ok71:okFunc (cx.at 71) Tryz.f71=true:=by kernel_rfl
theorem nd71:(loopIds (bodyOf Tryz.f71)).Nodup:=by decide +kernel
theorem cb72:callable Tryz.prog 72=true:=by kernel_rfl
theorem ok72:okFunc (cx.at 72) Tryz.f72=true:=by kernel_rfl
theorem nd72:(loopIds (bodyOf Tryz.f72)).Nodup:=by decide +kernel
theorem cb73:callable Tryz.prog 73=true:=by kernel_rfl
theorem ok73:okFunc (cx.at 73) Tryz.f73=true:=by kernel_rfl
theorem nd73:(loopIds (bodyOf Tryz.f73)).Nodup:=by decide +kernel
theorem nd74:(loopIds (bodyOf Tryz.f74)).Nodup:=by decide +kernel
theorem cb75:callable Tryz.prog 75=true:=by kernel_rfl
theorem ok75:okFunc (cx.at 75) Tryz.f75=true:=by kernel_rfl
theorem nd75:(loopIds (bodyOf Tryz.f75)).Nodup:=by decide +kernel
theorem cb76:callable Tryz.prog 76=true:=by kernel_rfl
theorem ok76:okFunc (cx.at 76) Tryz.f76=true:=by kernel_rfl
theorem nd76:(loopIds (bodyOf Tryz.f76)).Nodup:=by decide +kernel
theorem cb77:callable Tryz.prog 77=true:=by kernel_rfl
theorem ok77:okFunc (cx.at 77) Tryz.f77=true:=by kernel_rfl
theorem nd77:(loopIds (bodyOf Tryz.f77)).Nodup:=by decide +kernel
theorem cb78:callable Tryz.prog 78=true:=by kernel_rfl
theorem ok78:okFunc (cx.at 78) Tryz.f78=true:=by kernel_rfl
theorem nd78:(loopIds (bodyOf Tryz.f78)).Nodup:=by decide +kernel
theorem cb79:callable Tryz.prog 79=true:=by kernel_rfl
theorem ok79:okFunc (cx.at 79) Tryz.f79=true:=by kernel_rfl
theorem nd79:(loopIds (bodyOf Tryz.f79)).Nodup:=by decide +kernel
theorem cb80:callable Tryz.prog 80=true:=by kernel_rfl
theorem ok80:okFunc (cx.at 80) Tryz.f80=true:=by kernel_rfl
theorem nd80:(loopIds (bodyOf Tryz.f80)).Nodup:=by decide +kernel
theorem cb81:callable Tryz.prog 81=true:=by kernel_rfl
theorem ok81:okFunc (cx.at 81) Tryz.f81=true:=by kernel_rfl
theorem nd81:(loopIds (bodyOf Tryz.f81)).Nodup:=by decide +kernel
theorem cb82:callable Tryz.prog 82=true:=by kernel_rfl
theorem ok82:okFunc (cx.at 82) Tryz.f82=true:=by kernel_rfl
theorem nd82:(loopIds (bodyOf Tryz.f82)).Nodup:=by decide +kernel
theorem cb85:callable Tryz.prog 85=true:=by kernel_rfl
theorem ok85:okFunc (cx.at 85) Tryz.f85=true:=by kernel_rfl
theorem nd85:(loopIds (bodyOf Tryz.f85)).Nodup:=by decide +kernel
theorem cb97:callable Tryz.prog 97=true:=by kernel_rfl
theorem ok97:okFunc (cx.at 97) Tryz.f97=true:=by kernel_rfl
theorem nd97:(loopIds (bodyOf Tryz.f97)).Nodup:=by decide +kernel
theorem cb103:callable Tryz.prog 103=true:=by kernel_rfl
theorem ok103:okFunc (cx.at 103) Tryz.f103=true:=by kernel_rfl
theorem nd103:(loopIds (bodyOf Tryz.f103)).Nodup:=by decide +kernel
theorem cb104:callable Tryz.prog 104=true:=by kernel_rfl
theorem ok104:okFunc (cx.at 104) Tryz.f104=true:=by kernel_rfl
theorem nd104:(loopIds (bodyOf Tryz.f104)).Nodup:=by decide +kernel
theorem cb105:callable Tryz.prog 105=true:=by kernel_rfl
theorem ok105:okFunc (cx.at 105) Tryz.f105=true:=by kernel_rfl
theorem nd105:(loopIds (bodyOf Tryz.f105)).Nodup:=by decide +kernel
theorem cb106:callable Tryz.prog 106=true:=by kernel_rfl
theorem ok106:okFunc (cx.at 106) Tryz.f106=true:=by kernel_rfl
theorem nd106:(loopIds (bodyOf Tryz.f106)).Nodup:=by decide +kernel
theorem cb107:callable Tryz.prog 107=true:=by kernel_rfl
theorem ok107:okFunc (cx.at 107) Tryz.f107=true:=by kernel_rfl
theorem nd107:(loopIds (bodyOf Tryz.f107)).Nodup:=by decide +kernel
theorem cb108:callable Tryz.prog 108=true:=by kernel_rfl
theorem ok108:okFunc (cx.at 108) Tryz.f108=true:=by kernel_rfl
theorem nd108:(loopIds (bodyOf Tryz.f108)).Nodup:=by decide +kernel
theorem cb109:callable Tryz.prog 109=true:=by kernel_rfl
theorem ok109:okFunc (cx.at 109) Tryz.f109=true:=by kernel_rfl
theorem nd109:(loopIds (bodyOf Tryz.f109)).Nodup:=by decide +kernel
theorem cb110:callable Tryz.prog 110=true:=by kernel_rfl
theorem ok110:okFunc (cx.at 110) Tryz.f110=true:=by kernel_rfl
theorem nd110:(loopIds (bodyOf Tryz.f110)).Nodup:=by decide +kernel
theorem cb111:callable Tryz.prog 111=true:=by kernel_rfl
theorem ok111:okFunc (cx.at 111) Tryz.f111=true:=by kernel_rfl
theorem nd111:(loopIds (bodyOf Tryz.f111)).Nodup:=by decide +kernel
theorem cb112:callable Tryz.prog 112=true:=by kernel_rfl
theorem ok112:okFunc (cx.at 112) Tryz.f112=true:=by kernel_rfl
theorem nd112:(loopIds (bodyOf Tryz.f112)).Nodup:=by decide +kernel
theorem cb113:callable Tryz.prog 113=true:=by kernel_rfl
theorem ok113:okFunc (cx.at 113) Tryz.f113=true:=by kernel_rfl
theorem nd113:(loopIds (bodyOf Tryz.f113)).Nodup:=by decide +kernel
theorem cb114:callable Tryz.prog 114=true:=by kernel_rfl
theorem ok114:okFunc (cx.at 114) Tryz.f114=true:=by kernel_rfl
theorem nd114:(loopIds (bodyOf Tryz.f114)).Nodup:=by decide +kernel
theorem cb115:callable Tryz.prog 115=true:=by kernel_rfl
theorem ok115:okFunc (cx.at 115) Tryz.f115=true:=by kernel_rfl
theorem nd115:(loopIds (bodyOf Tryz.f115)).Nodup:=by decide +kernel
theorem cb116:callable Tryz.prog 116=true:=by kernel_rfl
theorem ok116:okFunc (cx.at 116) Tryz.f116=true:=by kernel_rfl
theorem nd116:(loopIds (bodyOf Tryz.f116)).Nodup:=by decide +kernel
theorem cb117:callable Tryz.prog 117=true:=by kernel_rfl
theorem ok117:okFunc (cx.at 117) Tryz.f117=true:=by kernel_rfl
theorem nd117:(loopIds (bodyOf Tryz.f117)).Nodup:=by decide +kernel
theorem cb118:callable Tryz.prog 118=true:=by kernel_rfl
theorem ok118:okFunc (cx.at 118) Tryz.f118=true:=by kernel_rfl
theorem nd118:(loopIds (bodyOf Tryz.f118)).Nodup:=by decide +kernel
theorem cb119:callable Tryz.prog 119=true:=by kernel_rfl
theorem ok119:okFunc (cx.at 119) Tryz.f119=true:=by kernel_rfl
theorem nd119:(loopIds (bodyOf Tryz.f119)).Nodup:=by decide +kernel
theorem cb120:callable Tryz.prog 120=true:=by kernel_rfl
theorem ok120:okFunc (cx.at 120) Tryz.f120=true:=by kernel_rfl
theorem nd120:(loopIds (bodyOf Tryz.f120)).Nodup:=by decide +kernel
theorem cb121:callable Tryz.prog 121=true:=by kernel_rfl
theorem ok121:okFunc (cx.at 121) Tryz.f121=true:=by kernel_rfl
theorem nd121:(loopIds (bodyOf Tryz.f121)).Nodup:=by decide +kernel
theorem cb122:callable Tryz.prog 122=true:=by kernel_rfl
theorem ok122:okFunc (cx.at 122) Tryz.f122=true:=by kernel_rfl
theorem nd122:(loopIds (bodyOf Tryz.f122)).Nodup:=by decide +kernel
theorem cb123:callable Tryz.prog 123=true:=by kernel_rfl
theorem ok123:okFunc (cx.at 123) Tryz.f123=true:=by kernel_rfl
theorem nd123:(loopIds (bodyOf Tryz.f123)).Nodup:=by decide +kernel
theorem cb124:callable Tryz.prog 124=true:=by kernel_rfl
theorem ok124:okFunc (cx.at 124) Tryz.f124=true:=by kernel_rfl
theorem nd124:(loopIds (bodyOf Tryz.f124)).Nodup:=by decide +kernel
theorem cb125:callable Tryz.prog 125=true:=by kernel_rfl
theorem ok125:okFunc (cx.at 125) Tryz.f125=true:=by kernel_rfl
theorem nd125:(loopIds (bodyOf Tryz.f125)).Nodup:=by decide +kernel
theorem cb126:callable Tryz.prog 126=true:=by kernel_rfl
theorem ok126:okFunc (cx.at 126) Tryz.f126=true:=by kernel_rfl
theorem nd126:(loopIds (bodyOf Tryz.f126)).Nodup:=by decide +kernel
theorem cb127:callable Tryz.prog 127=true:=by kernel_rfl
theorem ok127:okFunc (cx.at 127) Tryz.f127=true:=by kernel_rfl
theorem nd127:(loopIds (bodyOf Tryz.f127)).Nodup:=by decide +kernel
theorem cb128:callable Tryz.prog 128=true:=by kernel_rfl
theorem ok128:okFunc (cx.at 128) Tryz.f128=true:=by kernel_rfl
theorem nd128:(loopIds (bodyOf Tryz.f128)).Nodup:=by decide +kernel
theorem cb129:callable Tryz.prog 129=true:=by kernel_rfl
theorem ok129:okFunc (cx.at 129) Tryz.f129=true:=by kernel_rfl
theorem nd129:(loopIds (bodyOf Tryz.f129)).Nodup:=by decide +kernel
theorem cb130:callable Tryz.prog 130=true:=by kernel_rfl
theorem ok130:okFunc (cx.at 130) Tryz.f130=true:=by kernel_rfl
theorem nd130:(loopIds (bodyOf Tryz.f130)).Nodup:=by decide +kernel
theorem cb131:callable Tryz.prog 131=true:=by kernel_rfl
theorem ok131:okFunc (cx.at 131) Tryz.f131=true:=by kernel_rfl
theorem nd131:(loopIds (bodyOf Tryz.f131)).Nodup:=by decide +kernel
theorem cb132:callable Tryz.prog 132=true:=by kernel_rfl
theorem ok132:okFunc (cx.at 132) Tryz.f132=true:=by kernel_rfl
theorem nd132:(loopIds (bodyOf Tryz.f132)).Nodup:=by decide +kernel
theorem cb142:callable Tryz.prog 142=true:=by kernel_rfl
theorem ok142:okFunc (cx.at 142) Tryz.f142=true:=by kernel_rfl
theorem nd142:(loopIds (bodyOf Tryz.f142)).Nodup:=by decide +kernel
theorem cb143:callable Tryz.prog 143=true:=by kernel_rfl
theorem ok143:okFunc (cx.at 143) Tryz.f143=true:=by kernel_rfl
theorem nd143:(loopIds (bodyOf Tryz.f143)).Nodup:=by decide +kernel
theorem cb144:callable Tryz.prog 144=true:=by kernel_rfl
theorem ok144:okFunc (cx.at 144) Tryz.f144=true:=by kernel_rfl
theorem nd144:(loopIds (bodyOf Tryz.f144)).Nodup:=by decide +kernel
theorem cb145:callable Tryz.prog 145=true:=by kernel_rfl
theorem ok145:okFunc (cx.at 145) Tryz.f145=true:=by kernel_rfl
theorem nd145:(loopIds (bodyOf Tryz.f145)).Nodup:=by decide +kernel
theorem cb146:callable Tryz.prog 146=true:=by kernel_rfl
theorem ok146:okFunc (cx.at 146) Tryz.f146=true:=by kernel_rfl
theorem nd146:(loopIds (bodyOf Tryz.f146)).Nodup:=by decide +kernel
theorem cb147:callable Tryz.prog 147=true:=by kernel_rfl
theorem ok147:okFunc (cx.at 147) Tryz.f147=true:=by kernel_rfl
theorem nd147:(loopIds (bodyOf Tryz.f147)).Nodup:=by decide +kernel
theorem cb148:callable Tryz.prog 148=true:=by kernel_rfl
theorem ok148:okFunc (cx.at 148) Tryz.f148=true:=by kernel_rfl
theorem nd148:(loopIds (bodyOf Tryz.f148)).Nodup:=by decide +kernel
theorem cb149:callable Tryz.prog 149=true:=by kernel_rfl
theorem ok149:okFunc (cx.at 149) Tryz.f149=true:=by kernel_rfl
theorem nd149:(loopIds (bodyOf Tryz.f149)).Nodup:=by decide +kernel
theorem cb150:callable Tryz.prog 150=true:=by kernel_rfl
theorem ok150:okFunc (cx.at 150) Tryz.f150=true:=by kernel_rfl
theorem nd150:(loopIds (bodyOf Tryz.f150)).Nodup:=by decide +kernel
theorem cb151:callable Tryz.prog 151=true:=by kernel_rfl
theorem ok151:okFunc (cx.at 151) Tryz.f151=true:=by kernel_rfl
theorem nd151:(loopIds (bodyOf Tryz.f151)).Nodup:=by decide +kernel
theorem cb152:callable Tryz.prog 152=true:=by kernel_rfl
theorem ok152:okFunc (cx.at 152) Tryz.f152=true:=by kernel_rfl
theorem nd152:(loopIds (bodyOf Tryz.f152)).Nodup:=by decide +kernel
theorem cb153:callable Tryz.prog 153=true:=by kernel_rfl
theorem ok153:okFunc (cx.at 153) Tryz.f153=true:=by kernel_rfl
theorem nd153:(loopIds (bodyOf Tryz.f153)).Nodup:=by decide +kernel
theorem cb154:callable Tryz.prog 154=true:=by kernel_rfl
theorem cb155:callable Tryz.prog 155=true:=by kernel_rfl
theorem ok155:okFunc (cx.at 155) Tryz.f155=true:=by kernel_rfl
theorem nd155:(loopIds (bodyOf Tryz.f155)).Nodup:=by decide +kernel
theorem cb156:callable Tryz.prog 156=true:=by kernel_rfl
theorem ok156:okFunc (cx.at 156) Tryz.f156=true:=by kernel_rfl
theorem nd156:(loopIds (bodyOf Tryz.f156)).Nodup:=by decide +kernel
theorem cb157:callable Tryz.prog 157=true:=by kernel_rfl
theorem ok157:okFunc (cx.at 157) Tryz.f157=true:=by kernel_rfl
theorem nd157:(loopIds (bodyOf Tryz.f157)).Nodup:=by decide +kernel
theorem cb158:callable Tryz.prog 158=true:=by kernel_rfl
theorem ok158:okFunc (cx.at 158) Tryz.f158=true:=by kernel_rfl
theorem nd158:(loopIds (bodyOf Tryz.f158)).Nodup:=by decide +kernel
theorem cb159:callable Tryz.prog 159=true:=by kernel_rfl
theorem ok159:okFunc (cx.at 159) Tryz.f159=true:=by kernel_rfl
theorem nd159:(loopIds (bodyOf Tryz.f159)).Nodup:=by decide +kernel
theorem cb166:callable Tryz.prog 166=true:=by kernel_rfl
theorem ok166:okFunc (cx.at 166) Tryz.f166=true:=by kernel_rfl
theorem nd166:(loopIds (bodyOf Tryz.f166)).Nodup:=by decide +kernel
theorem cb167:callable Tryz.prog 167=true:=by kernel_rfl
theorem ok167:okFunc (cx.at 167) Tryz.f167=true:=by kernel_rfl
theorem nd167:(loopIds (bodyOf Tryz.f167)).Nodup:=by decide +kernel
theorem cb168:callable Tryz.prog 168=true:=by kernel_rfl
theorem ok168:okFunc (cx.at 168) Tryz.f168=true:=by kernel_rfl
theorem nd168:(loopIds (bodyOf Tryz.f168)).Nodup:=by decide +kernel
theorem cb171:callable Tryz.prog 171=true:=by kernel_rfl
theorem ok171:okFunc (cx.at 171) Tryz.f171=true:=by kernel_rfl
theorem nd171:(loopIds (bodyOf Tryz.f171)).Nodup:=by decide +kernel
theorem cb172:callable Tryz.prog 172=true:=by kernel_rfl
theorem ok172:okFunc (cx.at 172) Tryz.f172=true:=by kernel_rfl
theorem nd172:(loopIds (bodyOf Tryz.f172)).Nodup:=by decide +kernel
theorem cb173:callable Tryz.prog 173=true:=by kernel_rfl
theorem ok173:okFunc (cx.at 173) Tryz.f173=true:=by kernel_rfl
theorem nd173:(loopIds (bodyOf Tryz.f173)).Nodup:=by decide +kernel
theorem cb187:callable Tryz.prog 187=true:=by kernel_rfl
theorem ok187:okFunc (cx.at 187) Tryz.f187=true:=by kernel_rfl
theorem nd187:(loopIds (bodyOf Tryz.f187)).Nodup:=by decide +kernel
theorem cb188:callable Tryz.prog 188=true:=by kernel_rfl
theorem ok188:okFunc (cx.at 188) Tryz.f188=true:=by kernel_rfl
theorem nd188:(loopIds (bodyOf Tryz.f188)).Nodup:=by decide +kernel
theorem cb205:callable Tryz.prog 205=true:=by kernel_rfl
theorem ok205:okFunc (cx.at 205) Tryz.f205=true:=by kernel_rfl
theorem nd205:(loopIds (bodyOf Tryz.f205)).Nodup:=by decide +kernel
theorem cb215:callable Tryz.prog 215=true:=by kernel_rfl
theorem ok215:okFunc (cx.at 215) Tryz.f215=true:=by kernel_rfl
theorem nd215:(loopIds (bodyOf Tryz.f215)).Nodup:=by decide +kernel
theorem cb226:callable Tryz.prog 226=true:=by kernel_rfl
theorem ok226:okFunc (cx.at 226) Tryz.f226=true:=by kernel_rfl
theorem nd226:(loopIds (bodyOf Tryz.f226)).Nodup:=by decide +kernel
theorem cb235:callable Tryz.prog 235=true:=by kernel_rfl
theorem ok235:okFunc (cx.at 235) Tryz.f235=true:=by kernel_rfl
theorem nd235:(loopIds (bodyOf Tryz.f235)).Nodup:=by decide +kernel
theorem cb236:callable Tryz.prog 236=true:=by kernel_rfl
end Go.Proofs.YtaldobgfbkllfaaGreatDoor

namespace Go.Proofs.YtaldobgfbkllfaaGreatDoor
open Vai
open Go.RowKit (Below)
def lays154_ren:Go.Shelf.Ren:=⟨fun|174=>154|247=>169|245=>170|287=>182|279=>183|280=>184|281=>185|282=>186|321=>200|322=>201|316=>202|171=>204|205=>203|243=>214|246=>160|283=>174|284=>175|285=>176|286=>177|129=>190|317=>189|318=>191|319=>192|320=>193|337=>206|338=>207|n=>n,fun|9=>9|3=>3|2=>2|75=>181|85=>182|4=>4|167=>217|5=>5|53=>170|175=>218|46=>146|168=>220|37=>163|0=>0|210=>246|21=>21|127=>263|145=>266|143=>264|171=>209|173=>212|212=>225|51=>191|20=>20|213=>226|232=>267|233=>268|80=>159|n=>n,fun|15=>4|16=>5|17=>3|18=>6|19=>7|n=>n⟩
theorem lays154:Go.Proofs.LaysC.n174 Tryz.prog lays154_ren where
 mixed:=by kernel_rfl
 f129:=Tryz.func190.trans (congrArg some (by kernel_rfl))
 f171:=Tryz.func204.trans (congrArg some (by kernel_rfl))
 f174:=Tryz.func154.trans (congrArg some (by kernel_rfl))
 f205:=Tryz.func203.trans (congrArg some (by kernel_rfl))
 f243:=Tryz.func214.trans (congrArg some (by kernel_rfl))
 f245:=Tryz.func170.trans (congrArg some (by kernel_rfl))
 f246:=Tryz.func160.trans (congrArg some (by kernel_rfl))
 f247:=Tryz.func169.trans (congrArg some (by kernel_rfl))
 f279:=Tryz.func183.trans (congrArg some (by kernel_rfl))
 f280:=Tryz.func184.trans (congrArg some (by kernel_rfl))
 f281:=Tryz.func185.trans (congrArg some (by kernel_rfl))
 f282:=Tryz.func186.trans (congrArg some (by kernel_rfl))
 f283:=Tryz.func174.trans (congrArg some (by kernel_rfl))
 f284:=Tryz.func175.trans (congrArg some (by kernel_rfl))
 f285:=Tryz.func176.trans (congrArg some (by kernel_rfl))
 f286:=Tryz.func177.trans (congrArg some (by kernel_rfl))
 f287:=Tryz.func182.trans (congrArg some (by kernel_rfl))
 f316:=Tryz.func202.trans (congrArg some (by kernel_rfl))
 f317:=Tryz.func189.trans (congrArg some (by kernel_rfl))
 f318:=Tryz.func191.trans (congrArg some (by kernel_rfl))
 f319:=Tryz.func192.trans (congrArg some (by kernel_rfl))
 f320:=Tryz.func193.trans (congrArg some (by kernel_rfl))
 f321:=Tryz.func200.trans (congrArg some (by kernel_rfl))
 f322:=Tryz.func201.trans (congrArg some (by kernel_rfl))
 f337:=Tryz.func206.trans (congrArg some (by kernel_rfl))
 f338:=Tryz.func207.trans (congrArg some (by kernel_rfl))
 t0:=Tryz.underlying0
 a0:=Tryz.isAgg0
 z0:=Tryz.sizeOf0
 v0:=Tryz.zeroValue0
 t2:=Tryz.underlying2
 a2:=Tryz.isAgg2
 z2:=Tryz.sizeOf2
 v2:=Tryz.zeroValue2
 t3:=Tryz.underlying3
 a3:=Tryz.isAgg3
 z3:=Tryz.sizeOf3
 v3:=Tryz.zeroValue3
 t4:=Tryz.underlying4
 a4:=Tryz.isAgg4
 z4:=Tryz.sizeOf4
 v4:=Tryz.zeroValue4
 t5:=Tryz.underlying5
 a5:=Tryz.isAgg5
 z5:=Tryz.sizeOf5
 v5:=Tryz.zeroValue5
 t9:=Tryz.underlying9
 a9:=Tryz.isAgg9
 z9:=Tryz.sizeOf9
 v9:=Tryz.zeroValue9
 t20:=Tryz.underlying20
 a20:=Tryz.isAgg20
 z20:=Tryz.sizeOf20
 v20:=Tryz.zeroValue20
 t21:=Tryz.underlying21
 a21:=Tryz.isAgg21
 z21:=Tryz.sizeOf21
 v21:=Tryz.zeroValue21
 t37:=Tryz.underlying163
 a37:=Tryz.isAgg163
 z37:=Tryz.sizeOf163
 v37:=Tryz.zeroValue163
 t46:=Tryz.underlying146
 a46:=Tryz.isAgg146
 z46:=Tryz.sizeOf146
 v46:=Tryz.zeroValue146
 t51:=Tryz.underlying191
 a51:=Tryz.isAgg191
 z51:=Tryz.sizeOf191
 v51:=Tryz.zeroValue191
 t53:=Tryz.underlying170
 a53:=Tryz.isAgg170
 z53:=Tryz.sizeOf170
 v53:=Tryz.zeroValue170
 t75:=Tryz.underlying181
 a75:=Tryz.isAgg181
 z75:=Tryz.sizeOf181
 v75:=Tryz.zeroValue181
 t85:=Tryz.underlying182
 a85:=Tryz.isAgg182
 z85:=Tryz.sizeOf182
 v85:=Tryz.zeroValue182
 t127:=Tryz.underlying263
 a127:=Tryz.isAgg263
 z127:=Tryz.sizeOf263
 v127:=Tryz.zeroValue263
 t143:=Tryz.underlying264
 a143:=Tryz.isAgg264
 z143:=Tryz.sizeOf264
 v143:=Tryz.zeroValue264
 t145:=Tryz.underlying266
 a145:=Tryz.isAgg266
 z145:=Tryz.sizeOf266
 v145:=Tryz.zeroValue266
 t167:=Tryz.underlying217
 a167:=Tryz.isAgg217
 z167:=Tryz.sizeOf217
 v167:=Tryz.zeroValue217
 t168:=Tryz.underlying220
 a168:=Tryz.isAgg220
 z168:=Tryz.sizeOf220
 v168:=Tryz.zeroValue220
 t171:=Tryz.underlying209
 a171:=Tryz.isAgg209
 z171:=Tryz.sizeOf209
 v171:=Tryz.zeroValue209
 t173:=Tryz.underlying212
 a173:=Tryz.isAgg212
 z173:=Tryz.sizeOf212
 v173:=Tryz.zeroValue212
 t175:=Tryz.underlying218
 a175:=Tryz.isAgg218
 z175:=Tryz.sizeOf218
 v175:=Tryz.zeroValue218
 t210:=Tryz.underlying246
 a210:=Tryz.isAgg246
 z210:=Tryz.sizeOf246
 v210:=Tryz.zeroValue246
 t212:=Tryz.underlying225
 a212:=Tryz.isAgg225
 z212:=Tryz.sizeOf225
 v212:=Tryz.zeroValue225
 t213:=Tryz.underlying226
 a213:=Tryz.isAgg226
 z213:=Tryz.sizeOf226
 t232:=Tryz.underlying267
 a232:=Tryz.isAgg267
 z232:=Tryz.sizeOf267
 v232:=Tryz.zeroValue267
 t233:=Tryz.underlying268
 a233:=Tryz.isAgg268
 z233:=Tryz.sizeOf268
 v233:=Tryz.zeroValue268
 g15:=by kernel_rfl
 g16:=by kernel_rfl
 g17:=by kernel_rfl
 g18:=by kernel_rfl
 g19:=by kernel_rfl
 t80:=Tryz.underlying159
 a80:=Tryz.isAgg159
 z80:=Tryz.sizeOf159
 v80:=Tryz.zeroValue159
 i0:=by kernel_rfl
 i2:=by kernel_rfl
 i3:=by kernel_rfl
 i4:=by kernel_rfl
 i5:=by kernel_rfl
 i9:=by kernel_rfl
 i20:=by kernel_rfl
 i21:=by kernel_rfl
 i37:=by kernel_rfl
 i46:=by kernel_rfl
 i51:=by kernel_rfl
 i53:=by kernel_rfl
 i75:=by kernel_rfl
 i80:=by kernel_rfl
 i85:=by kernel_rfl
 i127:=by kernel_rfl
 i143:=by kernel_rfl
 i145:=by kernel_rfl
 i167:=by kernel_rfl
 i168:=by kernel_rfl
 i171:=by kernel_rfl
 i173:=by kernel_rfl
 i175:=by kernel_rfl
 i210:=by kernel_rfl
 i212:=by kernel_rfl
 i232:=by kernel_rfl
 i233:=by kernel_rfl
 m15:=by kernel_rfl
 m16:=by kernel_rfl
 m17:=by kernel_rfl
 m18:=by kernel_rfl
 m19:=by kernel_rfl
 c0:=by kernel_rfl
 c2:=by kernel_rfl
 c3:=by kernel_rfl
 c4:=by kernel_rfl
 c5:=by kernel_rfl
 c9:=by kernel_rfl
 c20:=by kernel_rfl
 c21:=by kernel_rfl
 c37:=by kernel_rfl
 c46:=by kernel_rfl
 c51:=by kernel_rfl
 c53:=by kernel_rfl
 c75:=by kernel_rfl
 c80:=by kernel_rfl
 c85:=by kernel_rfl
 c127:=by kernel_rfl
 c143:=by kernel_rfl
 c145:=by kernel_rfl
 c167:=by kernel_rfl
 c168:=by kernel_rfl
 c171:=by kernel_rfl
 c173:=by kernel_rfl
 c175:=by kernel_rfl
 c210:=by kernel_rfl
 c212:=by kernel_rfl
 c213:=by kernel_rfl
 c232:=by kernel_rfl
 c233:=by kernel_rfl
def lays133_ren:Go.Shelf.Ren:=⟨fun|173=>133|246=>160|283=>174|284=>175|285=>176|286=>177|129=>190|317=>189|318=>191|319=>192|320=>193|337=>206|338=>207|n=>n,fun|2=>2|3=>3|9=>9|4=>4|171=>209|0=>0|53=>170|37=>163|5=>5|173=>212|212=>225|51=>191|20=>20|213=>226|46=>146|232=>267|233=>268|n=>n,fun|17=>3|18=>6|19=>7|n=>n⟩
theorem lays133:Go.Proofs.LaysM.n173 Tryz.prog lays133_ren where
 mixed:=by kernel_rfl
 f129:=Tryz.func190.trans (congrArg some (by kernel_rfl))
 f173:=Tryz.func133.trans (congrArg some (by kernel_rfl))
 f246:=Tryz.func160.trans (congrArg some (by kernel_rfl))
 f283:=Tryz.func174.trans (congrArg some (by kernel_rfl))
 f284:=Tryz.func175.trans (congrArg some (by kernel_rfl))
 f285:=Tryz.func176.trans (congrArg some (by kernel_rfl))
 f286:=Tryz.func177.trans (congrArg some (by kernel_rfl))
 f317:=Tryz.func189.trans (congrArg some (by kernel_rfl))
 f318:=Tryz.func191.trans (congrArg some (by kernel_rfl))
 f319:=Tryz.func192.trans (congrArg some (by kernel_rfl))
 f320:=Tryz.func193.trans (congrArg some (by kernel_rfl))
 f337:=Tryz.func206.trans (congrArg some (by kernel_rfl))
 f338:=Tryz.func207.trans (congrArg some (by kernel_rfl))
 t0:=Tryz.underlying0
 a0:=Tryz.isAgg0
 z0:=Tryz.sizeOf0
 v0:=Tryz.zeroValue0
 t2:=Tryz.underlying2
 a2:=Tryz.isAgg2
 z2:=Tryz.sizeOf2
 v2:=Tryz.zeroValue2
 t3:=Tryz.underlying3
 a3:=Tryz.isAgg3
 z3:=Tryz.sizeOf3
 v3:=Tryz.zeroValue3
 t4:=Tryz.underlying4
 a4:=Tryz.isAgg4
 z4:=Tryz.sizeOf4
 v4:=Tryz.zeroValue4
 t5:=Tryz.underlying5
 a5:=Tryz.isAgg5
 z5:=Tryz.sizeOf5
 v5:=Tryz.zeroValue5
 t9:=Tryz.underlying9
 a9:=Tryz.isAgg9
 z9:=Tryz.sizeOf9
 v9:=Tryz.zeroValue9
 t20:=Tryz.underlying20
 a20:=Tryz.isAgg20
 z20:=Tryz.sizeOf20
 v20:=Tryz.zeroValue20
 t37:=Tryz.underlying163
 a37:=Tryz.isAgg163
 z37:=Tryz.sizeOf163
 v37:=Tryz.zeroValue163
 t46:=Tryz.underlying146
 a46:=Tryz.isAgg146
 z46:=Tryz.sizeOf146
 v46:=Tryz.zeroValue146
 t51:=Tryz.underlying191
 a51:=Tryz.isAgg191
 z51:=Tryz.sizeOf191
 v51:=Tryz.zeroValue191
 t53:=Tryz.underlying170
 a53:=Tryz.isAgg170
 z53:=Tryz.sizeOf170
 v53:=Tryz.zeroValue170
 t171:=Tryz.underlying209
 a171:=Tryz.isAgg209
 z171:=Tryz.sizeOf209
 v171:=Tryz.zeroValue209
 t173:=Tryz.underlying212
 a173:=Tryz.isAgg212
 z173:=Tryz.sizeOf212
 v173:=Tryz.zeroValue212
 t212:=Tryz.underlying225
 a212:=Tryz.isAgg225
 z212:=Tryz.sizeOf225
 v212:=Tryz.zeroValue225
 t213:=Tryz.underlying226
 a213:=Tryz.isAgg226
 z213:=Tryz.sizeOf226
 t232:=Tryz.underlying267
 a232:=Tryz.isAgg267
 z232:=Tryz.sizeOf267
 v232:=Tryz.zeroValue267
 t233:=Tryz.underlying268
 a233:=Tryz.isAgg268
 z233:=Tryz.sizeOf268
 v233:=Tryz.zeroValue268
 g17:=by kernel_rfl
 g18:=by kernel_rfl
 g19:=by kernel_rfl
 i0:=by kernel_rfl
 i2:=by kernel_rfl
 i3:=by kernel_rfl
 i4:=by kernel_rfl
 i5:=by kernel_rfl
 i9:=by kernel_rfl
 i20:=by kernel_rfl
 i37:=by kernel_rfl
 i46:=by kernel_rfl
 i51:=by kernel_rfl
 i53:=by kernel_rfl
 i171:=by kernel_rfl
 i173:=by kernel_rfl
 i212:=by kernel_rfl
 i232:=by kernel_rfl
 i233:=by kernel_rfl
 m17:=by kernel_rfl
 m18:=by kernel_rfl
 m19:=by kernel_rfl
def lays101_ren:Go.Shelf.Ren:=⟨fun|106=>101|213=>139|265=>164|n=>n,fun|9=>9|3=>3|n=>n,fun|n=>n⟩
theorem lays101:Go.Proofs.Lays.n106 Tryz.prog lays101_ren where
 mixed:=by kernel_rfl
 f106:=Tryz.func101.trans (congrArg some (by kernel_rfl))
 f213:=Tryz.func139.trans (congrArg some (by kernel_rfl))
 f265:=Tryz.func164.trans (congrArg some (by kernel_rfl))
 t3:=Tryz.underlying3
 a3:=Tryz.isAgg3
 z3:=Tryz.sizeOf3
 v3:=Tryz.zeroValue3
 t9:=Tryz.underlying9
 a9:=Tryz.isAgg9
 z9:=Tryz.sizeOf9
 v9:=Tryz.zeroValue9
def errOK (w:World)(g:Nat):Prop:=∃ ev:Value,w.cell? ⟨g,0,none⟩=some ev∧(ev = .nilIface∨∃ te pe,ev = .iface te pe)
theorem glob3:Tryz.prog.globalNamed "internal/strconv.uint64pow10" = some 3:=by kernel_rfl
theorem tab_stay {w w':World}(h:w'.heap[3]? = w.heap[3]?)(ht:Lib.TabIs Tryz.prog w "internal/strconv.uint64pow10" .u64 Lib.pow10Tab):Lib.TabIs Tryz.prog w' "internal/strconv.uint64pow10" .u64 Lib.pow10Tab:=by
 unfold Lib.TabIs World.var? at ht ⊢;rw [glob3] at ht ⊢;simp only [Option.bind_some] at ht ⊢;rw [h];exact ht
class GlY extends Gl where
 base:∀ w:World,Gl.ok w→(errOK w 4∧errOK w 5)∧Lib.TabIs Tryz.prog w "internal/strconv.uint64pow10" .u64 Lib.pow10Tab
variable [GlY]
theorem decF_eq:∀ (f n:Nat),0<f→n<10 ^ f→decF f n=Lib.decDigits n
 | 0,n,h,_=>absurd h (Nat.lt_irrefl _)
 | f+1,n,_,hn=>by
  rw [decF,Lib.decDigits];by_cases h10:n<10
  · rw [if_pos h10,dif_pos h10]
  · rw [if_neg h10,dif_neg h10]
    have hp:(10:Nat) ^ (f+1)=10 ^ f*10:=Nat.pow_succ ..;have hf:0<f:=by
     rcases Nat.eq_zero_or_pos f with rfl|hf
     · simp at hn; omega
     · exact hf
    rw [decF_eq f (n/10) hf (by omega)]
theorem itoaF_eq {n:Int}(h0 : -9223372036854775808≤n)(h1:n≤9223372036854775807):itoaF n=Lib.itoa n:=by
 unfold itoaF Lib.itoa;have hp:(10:Nat) ^ 20=100000000000000000000:=by decide
 split
 · rw [decF_eq 20 _ (by decide) (by rw [hp]; omega)]
 · rw [decF_eq 20 _ (by decide) (by rw [hp]; omega)]
theorem two_vals {vs:Array Value}{a b:D}(hl:[a,b].length=vs.size):∃ v0 v1,vs = #[v0,v1]:=⟨vs[0]'(by simp at hl; omega),vs[1]'(by simp at hl; omega),by
 refine Array.ext (by simp at hl ⊢; omega) fun i h1 h2=>?_
 match i,(show i<2 by simpa using h2) with
 | 0,_=>rfl
 | 1,_=>rfl⟩
theorem fmt_ok:∀ (args:List D) (h:H) (d:D) (h':H) (m:M) (w:World) (vs:Array Value),HR m w h→AV m w h.next args vs→fmtA 133 args h=some (d,h')→Calls Tryz.prog 133 vs w fun e w'=>∃ v m',e = .returned v∧Eff m w h d v w' h' m':=by
 intro args h d h' m w vs hr hv hc;unfold fmtA at hc;split at hc
 · split at hc
   · rename_i n b hcond
     obtain ⟨rfl,h0,h1⟩:=hcond;cases hc;obtain ⟨hl,hv⟩:=hv;obtain ⟨v0,v1,rfl⟩:=two_vals hl;have q0:=(hv 0 _ v0 rfl rfl).1;have q1:=(hv 1 _ v1 rfl rfl).1
     cases q0 with
     | t q0 =>
     cases q1 with
     | t q1 =>
     cases q0; cases q1;refine (Any.strconv_FormatInt_10 lays133 n h0 h1 w (GlY.base w hr.glob.1).2).mono fun e w' ⟨he,k,os,hw⟩=>?_
     subst hw;refine ⟨_,m,he,.of_below hr ?_ ?_ rfl⟩
     · exact Lib.below_grow _ _ (Nat.le_refl _) _ _
     · rw [itoaF_eq h0 h1]; exact .t (.str _)
   · cases hc
 · cases hc
theorem cmp_ok:∀ (args:List D) (h:H) (d:D) (h':H) (m:M) (w:World) (vs:Array Value),HR m w h→AV m w h.next args vs→cmpA 101 args h=some (d,h')→Calls Tryz.prog 101 vs w fun e w'=>∃ v m',e = .returned v∧Eff m w h d v w' h' m':=by
 intro args h d h' m w vs hr hv hc;unfold cmpA at hc;split at hc
 · cases hc
   obtain ⟨hl,hv⟩:=hv;obtain ⟨v0,v1,rfl⟩:=two_vals hl;have q0:=(hv 0 _ v0 rfl rfl).1;have q1:=(hv 1 _ v1 rfl rfl).1
   cases q0 with
   | t q0 =>
   cases q1 with
   | t q1 =>
   cases q0; cases q1;refine (Any.strings_Compare lays101 _ _ w).mono fun e w' ⟨he,hw⟩=>?_
   subst hw;exact ⟨_,m,he,.of_below hr (Below.refl _ _) (.t (.int _ _)) rfl⟩
 · cases hc
theorem parse_ok:∀ (args:List D) (h:H) (d:D) (h':H) (m:M) (w:World) (vs:Array Value),HR m w h→AV m w h.next args vs→parseA 154 args h=some (d,h')→Calls Tryz.prog 154 vs w fun e w'=>∃ v m',e = .returned v∧Eff m w h d v w' h' m':=by
 intro args h d h' m w vs hr hv hc
 · unfold parseA at hc
   split at hc
   · rename_i s b z
     split at hc
     · rename_i hcond
       obtain ⟨rfl,rfl,hs⟩:=hcond;obtain ⟨hl,hv⟩:=hv;obtain ⟨v0,v1,v2,rfl⟩:∃ v0 v1 v2,vs = #[v0,v1,v2]:=⟨vs[0]'(by simp at hl; omega),vs[1]'(by simp at hl; omega),vs[2]'(by simp at hl; omega),by
         refine Array.ext (by simp at hl ⊢; omega) fun i h1 h2=>?_
         match i,(show i<3 by simpa using h2) with
         | 0,_=>rfl
         | 1,_=>rfl
         | 2,_=>rfl⟩
       have q0:=(hv 0 _ v0 rfl rfl).1;have q1:=(hv 1 _ v1 rfl rfl).1;have q2:=(hv 2 _ v2 rfl rfl).1
       cases q0 with
       | t q0 =>
       cases q1 with
       | t q1 =>
       cases q2 with
       | t q2 =>
       cases q0; cases q1; cases q2;obtain ⟨⟨e0,g0,k0⟩,⟨e1,g1,k1⟩⟩:=(GlY.base w hr.glob.1).1;split at hc
       · rename_i v hp
         cases hc;refine (Any.strconv_ParseInt_10_at64_ok lays154 s (by omega) v hp w).mono fun e w' ⟨he,hw⟩=>⟨_,m,he,?_⟩
         have hb:Below w.heap.size w w':=by
           rcases hw with rfl|⟨t,rfl⟩
           · exact Below.refl _ _
           · exact Lib.bytesWorld_below _ _ _
         refine .of_below hr hb (.tup rfl fun i d' v' hd hv=>?_) rfl
         match i with
         | 0=>simp at hd hv; subst hd; subst hv; exact .t (.int _ _)
         | 1=>simp at hd hv; subst hd; subst hv; exact .t .nilIface
         | i+2=>simp at hd
       · rename_i hp
         have hcs:d = .tup [.undef,.iface 220 .undef]∧h'=h:=by
           simp only [Option.some.injEq,Prod.mk.injEq] at hc;exact ⟨hc.1.symm,hc.2.symm⟩
         obtain ⟨rfl,rfl⟩:=hcs;have fin:∀ (x:Value) (N:Nat) (w':World),Below w.heap.size w w'→Eff m w h' (.tup [.undef,.iface 220 .undef]) (.tuple #[x,.iface 220 (.pointer (some ⟨N,0,none⟩))]) w' h' m:=fun x N w' hb=>by
           refine .of_below hr hb (.tup rfl fun i d' v' hd hv=>?_) rfl
           match i with
           | 0=>simp at hd hv; subst hd; subst hv; exact .undef _
           | 1=>simp at hd hv; subst hd; subst hv; exact .iface (.undef _)
           | i+2=>simp at hd
         rcases hpp:Lib.parseIntB 64 s.data.toList with v|_|_
         · exact absurd hpp (hp v)
         · refine (Any.strconv_ParseInt_10_at64_syntax lays154 s (by omega) hpp e0 w g0 k0).mono fun e w' ⟨N,he,_,_,hb⟩=>?_
           exact ⟨_,m,he,fin _ N w' hb⟩
         · refine (Any.strconv_ParseInt_10_at64_range lays154 s (by omega) hpp e1 w g1 k1).mono fun e w' ⟨N,he,_,_,hb⟩=>?_
           exact ⟨_,m,he,fin _ N w' hb⟩
     · cases hc
   · cases hc
end Go.Proofs.YtaldobgfbkllfaaGreatDoor
