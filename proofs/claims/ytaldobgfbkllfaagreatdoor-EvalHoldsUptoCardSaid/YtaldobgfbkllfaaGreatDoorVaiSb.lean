import Derived.Test.YtaldobgfbkllfaaGreatDoorVaiSa
set_option linter.unusedSimpArgs false
set_option linter.unusedVariables false
set_option linter.unusedSectionVars false
namespace Vai
open Go
theorem chs_step {s:ByteArray}{i:Nat}(hi:i<s.size):chs s i=if (nx s i).2=0∨charB (nx s i).1=false then false else chs s (i+(nx s i).2):=by
 rw [chs,if_neg (by omega)]
 split<;>rfl
theorem chs_over {s:ByteArray}{i:Nat}(hi:s.size≤i):chs s i=true:=by rw [chs,if_pos hi]
theorem bad_step {s:ByteArray}{i:Nat}(hi:i<s.size):bad s i=if (nx s i).2=0 then (i:Int) else bad s (i+(nx s i).2):=by
 rw [bad,if_neg (by omega)]
theorem cut_one' {s:ByteArray}{i:Nat}{x:UInt8}{r:List UInt8}(h:s.data.toList.drop i=x::r):cut s i (i+1)=[x]:=by
 obtain ⟨_,h2⟩:=drop_cons h;have:=cut_succ (s:=s) (i:=i) (n:=0) (x:=x) (by rw [h,h2])
 rw [this,cut_zero]
theorem bt_head {s:ByteArray}{i:Nat}{x:UInt8}{r:List UInt8}(h:s.data.toList.drop i=x::r):i<s.size∧bt s i=x.toNat:=by
 obtain ⟨h1,_⟩:=drop_cons h;rw [len_bytes] at h1;exact ⟨h1,by rw [bt_drop,h]; rfl⟩
theorem drop_head {s:ByteArray}{i:Nat}(h:i<s.size):∃ x,s.data.toList.drop i=x::s.data.toList.drop (i+1):=by
 refine ⟨s.data.toList[i]'(by rw [len_bytes]; exact h),?_⟩
 exact List.drop_eq_getElem_cons (by rw [len_bytes]; exact h)
end Vai

namespace Vai
open Go
theorem size_ext {s:ByteArray}{a b:Nat}(h:b≤s.size):(s.extract a b).size=b-a:=by
 simp [ByteArray.size_extract]; omega
theorem nx_need {s:ByteArray}{i:Nat}(h:(nx s i).2≠0):(128≤bt s i→2≤(nx s i).2)∧(224≤bt s i→3≤(nx s i).2)∧(240≤bt s i→4≤(nx s i).2):=by
 unfold nx at h ⊢;by_cases c0:s.size≤i
 · rw [if_pos c0] at h; exact absurd rfl h
 rw [if_neg c0] at h ⊢;simp only at h ⊢;by_cases c1:bt s i<128
 · rw [if_pos c1]; exact ⟨fun h=>by omega,fun h=>by omega,fun h=>by omega⟩
 rw [if_neg c1] at h ⊢;by_cases c2:bt s i<192
 · rw [if_pos c2] at h; exact absurd rfl h
 rw [if_neg c2] at h ⊢;by_cases c3:bt s i<224
 · rw [if_pos c3] at h ⊢
   split
   · exact ⟨fun h=>by omega,fun h=>by omega,fun h=>by omega⟩
   · rename_i hn; rw [if_neg hn] at h; exact absurd rfl h
 rw [if_neg c3] at h ⊢;by_cases c4:bt s i<240
 · rw [if_pos c4] at h ⊢
   split
   · exact ⟨fun h=>by omega,fun h=>by omega,fun h=>by omega⟩
   · rename_i hn; rw [if_neg hn] at h; exact absurd rfl h
 rw [if_neg c4] at h ⊢;by_cases c5:bt s i<248
 · rw [if_pos c5] at h ⊢
   split
   · exact ⟨fun h=>by simp,fun h=>by simp,fun h=>by simp⟩
   · rename_i hn; rw [if_neg hn] at h; exact absurd rfl h
 rw [if_neg c5] at h;exact absurd rfl h
section
variable {s:ByteArray}{p:Nat}(hp:p≤s.size)
include hp
end
def Tk.back (p:Nat)(t:Tk):Tk:={ t with pos:=t.pos-p }
section
variable {s:ByteArray}{p:Nat}(hp:p≤s.size)
include hp
end
end Vai

namespace Vai
open Go
theorem toks_acc {s:ByteArray}{i:Nat}{acc acc' m:List Tk}(h:toks s i (acc++acc') = .ok m):∃ l,m=acc++l∧toks s i acc' = .ok l:=by
 generalize ha:acc++acc'=A at h
 fun_induction toks s i A generalizing acc' with
 | case1 i A h1 =>
  cases h;subst ha;exact ⟨acc',rfl,by rw [toks,if_pos h1]⟩
 | case2=>cases h
 | case3 i A h1 t j ht h2 ih =>
  subst ha;obtain ⟨l,h3,h4⟩:=ih (acc':=acc' ++ [t]) (by simp) h
  refine ⟨l,h3,?_⟩;rw [toks,if_neg h1,ht];simp only;rw [dif_pos h2];exact h4
 | case4 i A h1 t j ht h2 =>
  cases h;subst ha;refine ⟨acc',rfl,?_⟩;rw [toks,if_neg h1,ht];simp only;rw [dif_neg h2]
theorem toks_cons {s:ByteArray}{i:Nat}{l:List Tk}(hi:i≤s.size)(h:toks s i [] = .ok l):(s.size≤runTo blankB s i∧l=[])∨∃ t j l',runTo blankB s i<s.size∧tok1 s (runTo blankB s i) = .ok (t,j)∧l=t::l'∧toks s j [] = .ok l':=by
 have hge:=runTo_ge blankB s i;rw [toks] at h;by_cases h1:s.size≤runTo blankB s i
 · rw [if_pos h1] at h
   cases h;exact .inl ⟨h1,rfl⟩
 · rw [if_neg h1] at h
   cases ht:tok1 s (runTo blankB s i) with
   | error f=>rw [ht] at h; cases h
   | ok tj =>
    obtain ⟨t,j⟩:=tj;rw [ht] at h;have hgt:=tok1_gt (by omega) ht
    simp only at h;rw [dif_pos ⟨by omega,by omega⟩] at h
    obtain ⟨l',h3,h4⟩:=toks_acc (acc:=[t]) (acc':=[]) (by simpa using h)
    exact .inr ⟨t,j,l',by omega,rfl,by simpa using h3,h4⟩
end Vai

namespace Vai
open Go
theorem nx_part {s q:ByteArray}{i p:Nat}(h0:(nx s i).2≠0)(hi:i<s.size)(hp:p<q.size)(hb:∀ k,k<(nx s i).2→bt q (p+k)=bt s (i+k)):nx q p=nx s i:=by
 obtain ⟨n2,n3,n4⟩:=nx_need h0;have b0:=hb 0 (by omega)
 simp only [Nat.add_zero] at b0;by_cases h128:bt s i<128
 · rw [nx_ascii hp (by omega),nx_ascii hi h128,b0]
 have:=n2 (by omega)
 refine (nx_congr hi hp b0.symm (fun _=>(hb 1 (by omega)).symm) (fun h224 _ _=>?_) (fun h240 _ _ _=>?_)).symm
 · have:=n3 h224; exact (hb 2 (by omega)).symm
 · have:=n4 h240; exact (hb 3 (by omega)).symm
def GoodT (t:Tk):Prop:=(t.kind=1∧t.text=noText∧∃ n:Nat,t.n=n∧n<9223372036854775808)∨(t.kind=2∧t.n=0∧chs t.text 0=true∧t.text.size≤64) ∨
 (t.kind=3∧t.n=0∧t.text.size≤256∧∃ x l,t.text.data.toList=x::l∧letterB x.toNat=true∧∀ b∈l,wordB b.toNat=true) ∨
 (t.kind=4∧t.n=0∧((∃ x y,t.text.data.toList=[x,y]∧((x.toNat=61∧y.toNat=61)∨(x.toNat=33∧y.toNat=61)∨(x.toNat=60∧y.toNat=61)∨(x.toNat=62∧y.toNat=61)∨(x.toNat=38∧y.toNat=38)∨(x.toNat=124∧y.toNat=124))) ∨
  ∃ x,t.text.data.toList=[x]∧(x.toNat=43∨x.toNat=45∨x.toNat=42∨x.toNat=47∨x.toNat=37∨x.toNat=40∨x.toNat=41∨x.toNat=63∨x.toNat=58∨x.toNat=33∨x.toNat=60∨x.toNat=62)))
def wr (t:Tk):List UInt8:=if t.kind=1 then decL t.n else if t.kind=2 then 34::(esc t.text.data.toList ++ [34]) else t.text.data.toList
def catT (sep:List UInt8)(l:List Tk):List UInt8:=l.flatMap fun t=>wr t++sep
def likeT (a b:Tk):Prop:=a.kind=b.kind∧a.text=b.text∧a.n=b.n
end Vai

namespace Vai
open Go
theorem chs_more {A B:List UInt8}{i:Nat}(hi:i≤A.length)(h:chs ⟨A.toArray⟩ i=true):chs ⟨(A++B).toArray⟩ i=chs ⟨(A++B).toArray⟩ A.length:=by
 have hsA:=size_list A;have hsAB:=size_list (A++B);simp only [List.length_append] at hsAB
 fun_induction chs ⟨A.toArray⟩ i with
 | case1 i h1 =>
  have:i=A.length:=by omega
  rw [this]
 | case2 i h1 h2=>cases h
 | case3 i h1 h2 ih =>
  have hle:=nx_le (s:=⟨A.toArray⟩) (i:=i) (by omega)
  simp only [not_or] at h2;have hnx:nx ⟨(A++B).toArray⟩ i=nx ⟨A.toArray⟩ i:=nx_part h2.1 (by omega) (by omega) fun k hk=>by
   have hlt:i+k<A.length:=by omega
   obtain ⟨b,_,e1,e2⟩:=bt_list_mem hlt;rw [e1];exact bt_list (by rw [List.getElem?_append_left hlt]; exact e2)
  rw [chs_step (by omega),hnx,if_neg (by rintro (h|h); exact h2.1 h; exact h2.2 h)]
  exact ih (by omega) h
theorem chs_snoc {A:List UInt8}{s:ByteArray}{j:Nat}(h:chs ⟨A.toArray⟩ 0=true)(hc:charB (nx s j).1=true):chs ⟨(A++cut s j (j+(nx s j).2)).toArray⟩ 0=true:=by
 have hnc:=nx_char hc;have hcl:=cut_len (i:=j) hnc.2;have hsAB:=size_list (A++cut s j (j+(nx s j).2));simp only [List.length_append,hcl] at hsAB;rw [chs_more (Nat.zero_le _) h];have hnx:nx ⟨(A++cut s j (j+(nx s j).2)).toArray⟩ A.length=nx s j:=nx_part (by omega) (by omega) (by omega) fun k hk=>by
  obtain ⟨b,hb⟩:∃ b,(cut s j (j+(nx s j).2))[k]?=some b:=⟨(cut s j (j+(nx s j).2))[k]'(by omega),List.getElem?_eq_getElem (by omega)⟩
  rw [(cut_get hb).2];exact bt_list (by rw [List.getElem?_append_right (by omega),show A.length+k-A.length=k by omega]; exact hb)
 rw [chs_step (by omega),hnx,if_neg (by rw [hc]; simp; omega),chs_over (by omega)]
theorem txt_chs {s:ByteArray}{fr i:Nat}{out o:List UInt8}{e:Nat}(h:txt s fr i out = .ok (o,e))(hc:chs ⟨out.toArray⟩ 0=true):chs ⟨o.toArray⟩ 0=true:=by
 fun_induction txt s fr i out with
 | case1=>cases h
 | case2 i out h1 h2=>cases h; exact hc
 | case3=>cases h
 | case4=>cases h
 | case5 i out h1 h2 h3 h4 h5 hc2 ih=>exact ih h (chs_snoc hc hc2)
 | case6=>cases h
 | case7 i out h1 h2 h3 hc2 ih=>exact ih h (chs_snoc hc hc2)
 | case8=>cases h
theorem ext_bytes {s:ByteArray}{i j:Nat}(h:i≤j):(s.extract i j).data.toList=cut s i j:=by rw [extract_cut h]
theorem tok1_good {s:ByteArray}{i j:Nat}{t:Tk}(hs:s.size≤256)(hi:i<s.size)(h:tok1 s i = .ok (t,j)):GoodT t:=by
 obtain ⟨x,hx⟩:=drop_head hi;obtain ⟨_,hb⟩:=bt_head hx;unfold tok1 at h;split at h
 · rename_i h1
   cases hn:numS (cut s i (runTo digitB s i)) with
   | none=>rw [hn] at h; cases h
   | some n =>
     rw [hn] at h;cases h;unfold numS at hn;split at hn
     · rename_i h2
       cases hn;exact .inl ⟨rfl,rfl,_,rfl,h2.1⟩
     · cases hn
 split at h
 · rename_i h1
   have hw:wordB (bt s i)=true:=by simp [wordB,h1]
   have hge:=runTo_ge wordB s (i+1);rw [runTo_step hi hw] at hge;have hle:=runTo_le (p:=wordB) (s:=s) (i:=i) (by omega)
   have hall:=cut_all (p:=wordB) (s:=s) (i:=i);cases h;refine .inr (.inr (.inl ⟨rfl,rfl,?_,x,cut s (i+1) (runTo wordB s i),?_,by rw [←hb]; exact h1,fun b hbm=>?_⟩))
   · rw [size_ext hle]; omega
   · rw [ext_bytes (by omega)]
     obtain ⟨n,hn⟩:∃ n,runTo wordB s i=i+(n+1):=⟨runTo wordB s i-i-1,by omega⟩
     rw [hn,cut_succ hx,show i+1+n=i+(n+1) by omega]
   · apply hall
     obtain ⟨n,hn⟩:∃ n,runTo wordB s i=i+(n+1):=⟨runTo wordB s i-i-1,by omega⟩
     rw [hn,cut_succ hx];rw [hn,show i+(n+1)=i+1+n by omega] at hbm
     exact List.mem_cons_of_mem _ hbm
 split at h
 · rename_i h1
   cases ht:txt s i (i+1) [] with
   | error f=>rw [ht] at h; cases h
   | ok oe =>
     obtain ⟨o,e⟩:=oe;rw [ht] at h;simp only at h;by_cases h64:64<o.length
     · rw [if_pos h64] at h; cases h
     · rw [if_neg h64] at h
       cases h;refine .inr (.inl ⟨rfl,rfl,txt_chs ht (chs_over (by rw [size_list]; exact Nat.le_refl _)),?_⟩)
       rw [size_list]; omega
 split at h
 · cases h
 · rename_i h1
   cases h;refine .inr (.inr (.inr ⟨rfl,rfl,?_⟩));unfold signL at h1 ⊢;split
   · rename_i h2
     obtain ⟨y,hy⟩:=drop_head (s:=s) (i:=i+1) (by omega)
     obtain ⟨_,hby⟩:=bt_head hy;refine .inl ⟨x,y,?_,?_⟩
     · simp only
       rw [ext_bytes (by omega),show i+2=i+(1+1) from rfl,cut_succ hx,cut_one' hy]
     · rw [←hb,←hby]; exact h2.2
   · rename_i h2
     rw [if_neg h2] at h1;split
     · rename_i h3
       refine .inr ⟨x,?_,?_⟩
       · simp only
         rw [ext_bytes (by omega),cut_one' hx]
       · rw [←hb]; exact h3
     · rename_i h3
       rw [if_neg h3] at h1;exact absurd rfl h1
theorem toks_good {s:ByteArray}(hs:s.size≤256):∀ (n:Nat) {i:Nat} {l:List Tk},s.size-i≤n→i≤s.size→toks s i [] = .ok l→∀ t∈l,GoodT t:=by
 intro n
 induction n with
 | zero =>
  intro i l hn hi h;rw [toks_over (by omega)] at h
  cases h;intro t ht; cases ht
 | succ n ih =>
  intro i l hn hi h t ht;have hge:=runTo_ge blankB s i;rcases toks_cons hi h with ⟨_,rfl⟩|⟨t',j,l',h1,h2,rfl,h3⟩
  · cases ht
  · have hgt:=tok1_gt h1 h2
    rcases List.mem_cons.1 ht with rfl|ht
    · exact tok1_good hs h1 h2
    · exact ih (by omega) hgt.2 h3 t ht
theorem lexS_good (s:ByteArray):∀ t∈(lexS s).1,GoodT t:=by
 unfold lexS;split
 · intro t ht; cases ht
 split
 · intro t ht; cases ht
 cases h:toks s 0 [] with
 | error f=>intro t ht; cases ht
 | ok l=>exact toks_good (by omega) s.size (by omega) (Nat.zero_le _) h
end Vai

namespace Vai
open Go
theorem get_bt (s:ByteArray)(j:Nat):(s.get! j).toNat=bt s j:=by
 cases s with
 | mk d =>
  show (d[j]!).toNat=match d[j]? with|some b=>b.toNat|none=>0
  rw [getElem!_def];cases h:d[j]?<;>rfl
theorem cont_bt (s:ByteArray)(j:Nat):(decide (j<s.size)&&bt s j/64 == 2)=contB (bt s j):=by
 by_cases h:contB (bt s j)=true
 · rw [h]
   have:=cont_lt h;simp only [contB] at h;simp [this,h]
 · have h':contB (bt s j)=false:=by simpa using h
   rw [h'];simp only [contB] at h';simp [h']
theorem dec_nx {s:ByteArray}{i:Nat}(h:(nx s i).2≠0):((Utf8.decode s i).1:Int)=(nx s i).1∧(Utf8.decode s i).2=(nx s i).2:=by
 unfold Utf8.decode;simp only [get_bt,cont_bt,Nat.add_zero];unfold nx at h ⊢;by_cases c0:s.size≤i
 · rw [if_pos c0] at h; exact absurd rfl h
 rw [if_neg c0] at h ⊢;simp only at h ⊢;by_cases c1:bt s i<128
 · rw [if_pos c1,if_pos c1]; exact ⟨rfl,rfl⟩
 rw [if_neg c1] at h ⊢;rw [if_neg c1];by_cases c2:bt s i<192
 · rw [if_pos c2] at h; exact absurd rfl h
 rw [if_neg c2] at h ⊢;by_cases c3:bt s i<224
 · rw [if_pos c3] at h ⊢
   by_cases g:i+2≤s.size∧contB (bt s (i+1))=true∧128≤bt s i%32*64+bt s (i+1)%64
   · rw [if_pos g]
     have e:bt s i/32=6:=by omega
     rw [if_pos (by simp [e,g.2.1]),if_pos g.2.2]
     exact ⟨rfl,rfl⟩
   · rw [if_neg g] at h; exact absurd rfl h
 rw [if_neg c3] at h ⊢;have e6:¬ bt s i/32=6:=by omega
 rw [if_neg (by simp [e6])]
 by_cases c4:bt s i<240
 · rw [if_pos c4] at h ⊢
   by_cases g:i+3≤s.size∧contB (bt s (i+1))=true∧contB (bt s (i+2))=true∧2048≤bt s i%16*4096+bt s (i+1)%64*64+bt s (i+2)%64∧(bt s i%16*4096+bt s (i+1)%64*64+bt s (i+2)%64<55296∨57343<bt s i%16*4096+bt s (i+1)%64*64+bt s (i+2)%64)
   · rw [if_pos g]
     have e:bt s i/16=14:=by omega
     rw [if_pos (by simp [e,g.2.1,g.2.2.1])]
     have hv:(decide (bt s i%16*4096+bt s (i+1)%64*64+bt s (i+2)%64≥2048)&&Utf8.valid (bt s i%16*4096+bt s (i+1)%64*64+bt s (i+2)%64:Nat))=true:=by
      have g1:=g.2.2.2.1;have g2:=g.2.2.2.2;simp [Utf8.valid];omega
     rw [if_pos hv];exact ⟨rfl,rfl⟩
   · rw [if_neg g] at h; exact absurd rfl h
 rw [if_neg c4] at h ⊢;have e14:¬ bt s i/16=14:=by omega
 rw [if_neg (by simp [e14])]
 by_cases c5:bt s i<248
 · rw [if_pos c5] at h ⊢
   by_cases g:i+4≤s.size∧contB (bt s (i+1))=true∧contB (bt s (i+2))=true∧contB (bt s (i+3))=true∧65536≤bt s i%8*262144+bt s (i+1)%64*4096+bt s (i+2)%64*64+bt s (i+3)%64∧bt s i%8*262144+bt s (i+1)%64*4096+bt s (i+2)%64*64+bt s (i+3)%64≤1114111
   · rw [if_pos g]
     have e:bt s i/8=30:=by omega
     rw [if_pos (by simp [e,g.2.1,g.2.2.1,g.2.2.2.1])]
     have hv:(decide (bt s i%8*262144+bt s (i+1)%64*4096+bt s (i+2)%64*64+bt s (i+3)%64≥65536)&&Utf8.valid (bt s i%8*262144+bt s (i+1)%64*4096+bt s (i+2)%64*64+bt s (i+3)%64:Nat))=true:=by
      have g1:=g.2.2.2.2.1;have g2:=g.2.2.2.2.2;simp [Utf8.valid];omega
     rw [if_pos hv];exact ⟨rfl,rfl⟩
   · rw [if_neg g] at h; exact absurd rfl h
 rw [if_neg c5] at h;exact absurd rfl h
theorem bad_chs {s:ByteArray}{i:Nat}(h:0≤bad s i):chs s i=false:=by
 fun_induction bad s i with
 | case1=>omega
 | case2 i h1 h2=>rw [chs_step (by omega),if_pos (.inl h2)]
 | case3 i h1 h2 ih =>
  rw [chs_step (by omega)]
  by_cases hc:charB (nx s i).1=false
  · rw [if_pos (.inr hc)]
  · rw [if_neg (by rintro (h|h); exact h2 h; exact hc h)]
    exact ih h
end Vai
