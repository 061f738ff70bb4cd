import Derived.Test.YtaldobgfbkllfaaGreatDoorVaiD
import Derived.Lib.ParseIntBTie
set_option linter.unusedSimpArgs false
set_option linter.unusedVariables false
set_option linter.unusedSectionVars false
namespace Vai
open Go
def putL (r:Int):List UInt8 :=
 if r<0∨1114111<r∨(55296≤r∧r≤57343) then []
 else if r<128 then [u8 r]
 else if r<2048 then [u8 (192+r/64),u8 (128+r%64)]
 else if r<65536 then [u8 (224+r/4096),u8 (128+r/64%64),u8 (128+r%64)]
 else [u8 (240+r/262144),u8 (128+r/4096%64),u8 (128+r/64%64),u8 (128+r%64)]
theorem nat_of {x:Int}{k:Nat}(h0:0≤x)(h1:x<k):∃ n:Fin k,x=((n:Nat):Int):=⟨⟨x.toNat,by omega⟩,by simp; omega⟩
theorem or128 {x:Int}(h0:0≤x)(h1:x<64):intBitsT .or .u8 128 x=some (128+x):=by
 obtain ⟨n,rfl⟩:=nat_of (k:=64) h0 (by omega)
 revert n; decide +kernel
theorem or192 {x:Int}(h0:0≤x)(h1:x<32):intBitsT .or .u8 192 x=some (192+x):=by
 obtain ⟨n,rfl⟩:=nat_of (k:=32) h0 (by omega)
 revert n; decide +kernel
theorem or224 {x:Int}(h0:0≤x)(h1:x<16):intBitsT .or .u8 224 x=some (224+x):=by
 obtain ⟨n,rfl⟩:=nat_of (k:=16) h0 (by omega)
 revert n; decide +kernel
theorem or240 {x:Int}(h0:0≤x)(h1:x<8):intBitsT .or .u8 240 x=some (240+x):=by
 obtain ⟨n,rfl⟩:=nat_of (k:=8) h0 (by omega)
 revert n; decide +kernel
theorem and63 {x:Int}(h0:0≤x)(h1:x<256):intBitsT .and .u8 x 63=some (x%64):=by
 obtain ⟨n,rfl⟩:=nat_of (k:=256) h0 (by omega)
 revert n; decide +kernel
theorem and31 {x:Int}(h0:0≤x)(h1:x<256):intBitsT .and .u8 x 31=some (x%32):=by
 obtain ⟨n,rfl⟩:=nat_of (k:=256) h0 (by omega)
 revert n; decide +kernel
theorem and15 {x:Int}(h0:0≤x)(h1:x<256):intBitsT .and .u8 x 15=some (x%16):=by
 obtain ⟨n,rfl⟩:=nat_of (k:=256) h0 (by omega)
 revert n; decide +kernel
theorem and7 {x:Int}(h0:0≤x)(h1:x<256):intBitsT .and .u8 x 7=some (x%8):=by
 obtain ⟨n,rfl⟩:=nat_of (k:=256) h0 (by omega)
 revert n; decide +kernel
theorem and192 {x:Int}(h0:0≤x)(h1:x<256):intBitsT .and .u8 x 192=some (x/64*64):=by
 obtain ⟨n,rfl⟩:=nat_of (k:=256) h0 (by omega)
 revert n; decide +kernel
theorem or6 {n c:Nat}(hc:c<64)(h:n*64+c<2147483648):intBitsT .or .i32 ((n:Int)*64) (c:Int)=some ((n:Int)*64+c):=by
 have h1:BitVec.ofInt 32 ((n:Int)*64)=BitVec.ofNat 32 (n*64):=by
  rw [show (n:Int)*64=((n*64:Nat):Int) by omega,BitVec.ofInt_natCast]
 have h2:BitVec.ofInt 32 (c:Int)=BitVec.ofNat 32 c:=BitVec.ofInt_natCast ..;have h3:(n*64) |||c=n*64+c:=by
  have:=Nat.shiftLeft_add_eq_or_of_lt (a:=n) (b:=c) (i:=6) hc;rw [Nat.shiftLeft_eq] at this;exact this.symm
 have e32:(2:Nat) ^ 32=4294967296:=by decide
 have m1:n*64%2 ^ 32=n*64:=by rw [e32]; omega
 have m2:c%2 ^ 32=c:=by rw [e32]; omega
 have h4:(BitVec.ofNat 32 (n*64) |||BitVec.ofNat 32 c).toNat=n*64+c:=by
  rw [BitVec.toNat_or,BitVec.toNat_ofNat,BitVec.toNat_ofNat,m1,m2,h3]
 have h5:intBitsT .or .i32 ((n:Int)*64) (c:Int)=some (IntKind.i32.wrap ((BitVec.ofInt 32 ((n:Int)*64) |||BitVec.ofInt 32 (c:Int)).toNat:Int)):=rfl
 rw [h5,h1,h2,h4,wrap_i32 (by omega) (by omega)]
 congr 1
theorem wrap_u8_mod (x:Int):IntKind.u8.wrap x=x%256:=wrap_u8_eq x
theorem u8_val {x:Int}(h0:0≤x)(h1:x<256):((u8 x).toNat:Int)=x:=by rw [u8_toNat]; omega
theorem tmod_pos' {a b:Int}(h:0≤a):a.tmod b=a%b:=Int.tmod_eq_emod_of_nonneg h
theorem fdiv_pos' {a b:Int}(h:0≤b):a.fdiv b=a/b:=Int.fdiv_eq_ediv_of_nonneg _ h
def runeB (r:Int):Bool:=decide (0≤r∧r≤1114111∧(r<55296∨57343<r))
def charB (r:Int):Bool:=decide (0≤r∧r≤1114111∧(r<55296∨57343<r)∧r≠65534∧r≠65535∧(32≤r∨r=9∨r=10∨r=13))
theorem putL_ne {r:Int}:(putL r=[])↔¬ (0≤r∧r≤1114111∧(r<55296∨57343<r)):=by
 unfold putL;by_cases hn:r<0∨1114111<r∨(55296≤r∧r≤57343)
 · rw [if_pos hn]; simp; omega
 · rw [if_neg hn]
   constructor
   · intro h; repeat' split at h
     all_goals simp at h
   · intro h; omega
theorem of_u8 {x y:Int}(h:x=y%256):UInt8.ofNat x.toNat=u8 y:=by unfold u8; rw [h]
def bt (s:ByteArray)(i:Nat):Nat:=match s.data[i]? with|some b=>b.toNat|none=>0
theorem bt_lt (s:ByteArray)(i:Nat):bt s i<256:=by
 unfold bt; split
 · rename_i b _; exact b.toNat_lt
 · omega
theorem bt_get {s:ByteArray}{i:Nat}(h:i<s.size):∃ b,s.data[i]?=some b∧bt s i=b.toNat:=by
 have h':i<s.data.size:=h;have e:s.data[i]?=some s.data[i]:=by simp [h']
 exact ⟨s.data[i],e,by simp only [bt,e]⟩
def contB (c:Nat):Bool:=c/64 == 2
def nx (s:ByteArray)(i:Nat):Int × Nat :=
 if s.size≤i then (0,0) else
 let b0:=bt s i
 let b1:=bt s (i+1)
 let b2:=bt s (i+2)
 let b3:=bt s (i+3)
 if b0<128 then (b0,1)
 else if b0<192 then (0,0)
 else if b0<224 then
  let r:=b0%32*64+b1%64
  if i+2≤s.size∧contB b1=true∧128≤r then (r,2) else (0,0)
 else if b0<240 then
  let r:=b0%16*4096+b1%64*64+b2%64
  if i+3≤s.size∧contB b1=true∧contB b2=true∧2048≤r∧(r<55296∨57343<r) then (r,3) else (0,0)
 else if b0<248 then
  let r:=b0%8*262144+b1%64*4096+b2%64*64+b3%64
  if i+4≤s.size∧contB b1=true∧contB b2=true∧contB b3=true∧65536≤r∧r≤1114111 then (r,4) else (0,0)
 else (0,0)
theorem putL_len (r:Int):(putL r).length=if r<0∨1114111<r∨(55296≤r∧r≤57343) then 0 else if r<128 then 1 else if r<2048 then 2 else if r<65536 then 3 else 4:=by
 unfold putL; repeat' split
 all_goals rfl
def accR (r:Nat)(cs:List UInt8):Nat:=cs.foldl (fun r c=>r*64+c.toNat%64) r
theorem accR_snoc (r:Nat)(cs:List UInt8)(c:UInt8):accR r (cs ++ [c])=accR r cs*64+c.toNat%64:=by simp [accR]
theorem accR_lt (r:Nat)(cs:List UInt8):accR r cs<(r+1)*64 ^ cs.length:=by
 induction cs generalizing r with
 | nil=>simp [accR]
 | cons c cs ih =>
  have:=ih (r*64+c.toNat%64);simp only [accR,List.foldl_cons,List.length_cons] at this ⊢;refine Nat.lt_of_lt_of_le this ?_;rw [Nat.pow_succ,Nat.mul_comm (64 ^ cs.length) 64,←Nat.mul_assoc];exact Nat.mul_le_mul_right _ (by have:=c.toNat_lt; omega)
theorem extract_bytes (s:ByteArray)(a n:Nat):(s.extract a (a+n)).data.toList=(s.data.toList.drop a).take n:=by
 simp [ByteArray.data_extract]
theorem take_bytes {s:ByteArray}{i:Nat}:∀ {n:Nat},i+n≤s.size→∃ l:List UInt8,(s.data.toList.drop i).take n=l∧l.length=n∧∀ j b,l[j]?=some b→bt s (i+j)=b.toNat:=by
 intro n h;refine ⟨_,rfl,by simp; omega,fun j b hj=>?_⟩
 rw [List.getElem?_take] at hj;split at hj
 · rw [List.getElem?_drop] at hj
   simp only [Array.getElem?_toList] at hj;simp only [bt,hj]
 · cases hj
theorem nx_multi {s:ByteArray}{i n r0:Nat}(hi:i<s.size)(h:(n=2∧192≤bt s i∧bt s i<224∧r0=bt s i%32)∨(n=3∧224≤bt s i∧bt s i<240∧r0=bt s i%16)∨(n=4∧240≤bt s i∧bt s i<248∧r0=bt s i%8)) :
   nx s i=if i+n≤s.size∧((s.data.toList.drop (i+1)).take (n-1)).all (fun c=>contB c.toNat)=true∧(putL (accR r0 ((s.data.toList.drop (i+1)).take (n-1)))).length=n then (((accR r0 ((s.data.toList.drop (i+1)).take (n-1)):Nat):Int),n) else (0,0):=by
 unfold nx;rw [if_neg (by omega)]
 rcases h with ⟨rfl,h1,h2,rfl⟩|⟨rfl,h1,h2,rfl⟩|⟨rfl,h1,h2,rfl⟩
 · simp only [if_neg (show ¬ bt s i<128 by omega),if_neg (show ¬ bt s i<192 by omega),if_pos h2]
   by_cases hm:i+2≤s.size
   · obtain ⟨l,hl,hlen,hg⟩:=take_bytes (s:=s) (i:=i+1) (n:=1) (by omega)
     simp only [show 2-1=1 from rfl,hl]
     match l,hlen with
     | [c1],_ =>
      have g1:=hg 0 c1 rfl;simp only [Nat.add_zero] at g1;simp only [List.all_cons,List.all_nil,Bool.and_true,accR,List.foldl_cons,List.foldl_nil,putL_len,g1,hm,true_and];have b8:=c1.toNat_lt;by_cases hc:contB c1.toNat=true
      · simp only [hc,true_and]
        by_cases hr:128≤bt s i%32*64+c1.toNat%64
        · rw [if_pos hr,if_pos ?_]
          rw [if_neg (by omega),if_neg (by omega),if_pos (by omega)]
        · rw [if_neg hr,if_neg ?_]
          rw [if_neg (by omega),if_pos (by omega)]; omega
      · simp only [hc,false_and,if_false,Bool.false_eq_true]
   · simp only [hm,false_and,if_false]
 · simp only [if_neg (show ¬ bt s i<128 by omega),if_neg (show ¬ bt s i<192 by omega),if_neg (show ¬ bt s i<224 by omega),if_pos h2]
   by_cases hm:i+3≤s.size
   · obtain ⟨l,hl,hlen,hg⟩:=take_bytes (s:=s) (i:=i+1) (n:=2) (by omega)
     simp only [show 3-1=2 from rfl,hl]
     match l,hlen with
     | [c1,c2],_ =>
      have g1:=hg 0 c1 rfl;have g2:=hg 1 c2 rfl;simp only [Nat.add_zero] at g1;rw [show i+1+1=i+2 by omega] at g2
      simp only [List.all_cons,List.all_nil,Bool.and_true,Bool.and_eq_true,accR,List.foldl_cons,List.foldl_nil,putL_len,g1,g2,hm,true_and,and_assoc];have b8:=c1.toNat_lt;have e1:(bt s i%16*64+c1.toNat%64)*64+c2.toNat%64=bt s i%16*4096+c1.toNat%64*64+c2.toNat%64:=by omega
      rw [e1];by_cases hc:contB c1.toNat=true
      · by_cases hc2:contB c2.toNat=true
        · simp only [hc,hc2,true_and]
          by_cases hr:2048≤bt s i%16*4096+c1.toNat%64*64+c2.toNat%64∧(bt s i%16*4096+c1.toNat%64*64+c2.toNat%64<55296∨57343<bt s i%16*4096+c1.toNat%64*64+c2.toNat%64)
          · rw [if_pos hr,if_pos ?_]
            rw [if_neg (by omega),if_neg (by omega),if_neg (by omega),if_pos (by omega)]
          · rw [if_neg hr,if_neg ?_]
            repeat' split
            all_goals omega
        · simp only [hc2,false_and,and_false,if_false,Bool.false_eq_true]
      · simp only [hc,false_and,if_false,Bool.false_eq_true]
   · simp only [hm,false_and,if_false]
 · simp only [if_neg (show ¬ bt s i<128 by omega),if_neg (show ¬ bt s i<192 by omega),if_neg (show ¬ bt s i<224 by omega),if_neg (show ¬ bt s i<240 by omega),if_pos h2]
   by_cases hm:i+4≤s.size
   · obtain ⟨l,hl,hlen,hg⟩:=take_bytes (s:=s) (i:=i+1) (n:=3) (by omega)
     simp only [show 4-1=3 from rfl,hl]
     match l,hlen with
     | [c1,c2,c3],_ =>
      have g1:=hg 0 c1 rfl;have g2:=hg 1 c2 rfl;have g3:=hg 2 c3 rfl;simp only [Nat.add_zero] at g1;rw [show i+1+1=i+2 by omega] at g2
      rw [show i+1+2=i+3 by omega] at g3
      simp only [List.all_cons,List.all_nil,Bool.and_true,Bool.and_eq_true,accR,List.foldl_cons,List.foldl_nil,putL_len,g1,g2,g3,hm,true_and,and_assoc];have b8:=c1.toNat_lt;have e1:((bt s i%8*64+c1.toNat%64)*64+c2.toNat%64)*64+c3.toNat%64=bt s i%8*262144+c1.toNat%64*4096+c2.toNat%64*64+c3.toNat%64:=by omega
      rw [e1];by_cases hc:contB c1.toNat=true
      · by_cases hc2:contB c2.toNat=true
        · by_cases hc3:contB c3.toNat=true
          · simp only [hc,hc2,hc3,true_and]
            generalize bt s i%8*262144+c1.toNat%64*4096+c2.toNat%64*64+c3.toNat%64=r;by_cases hr:65536≤r∧r≤1114111
            · rw [if_pos hr,if_pos ?_]
              rw [if_neg (by omega),if_neg (by omega),if_neg (by omega),if_neg (by omega)]
            · rw [if_neg hr,if_neg ?_]
              repeat' split
              all_goals omega
          · simp only [hc3,false_and,and_false,if_false,Bool.false_eq_true]
        · simp only [hc2,false_and,and_false,if_false,Bool.false_eq_true]
      · simp only [hc,false_and,if_false,Bool.false_eq_true]
   · simp only [hm,false_and,if_false]
theorem nx_le {s:ByteArray}{i:Nat}(h:i<s.size):i+(nx s i).2≤s.size:=by
 unfold nx;rw [if_neg (by omega)]
 simp only
 repeat' split
 all_goals simp only
 all_goals omega
def bad (s:ByteArray)(i:Nat):Int :=
 if s.size≤i then -1 else if (nx s i).2=0 then i else bad s (i+(nx s i).2)
termination_by s.size-i
def refR (s:ByteArray)(i n:Nat):Nat→Nat
 | 0=>0
 | 1=>if n=1 then bt s i else bt s i%2 ^ (7-n)
 | k+1=>refR s i n k*64+bt s (i+k)%64
theorem refR_lt (s:ByteArray)(i n:Nat)(hn:1≤n)(hn4:n≤4):∀ k,k≤4→refR s i n k<256*64 ^ (k-1):=by
 intro k hk;have h0:=bt_lt s i;have hp:bt s i%2 ^ (7-n)<256:=Nat.lt_of_le_of_lt (Nat.mod_le _ _) h0
 match k,hk with
 | 0,_=>simp [refR]
 | 1,_=>simp only [refR]; split<;>simp<;>omega
 | 2,_=>simp only [refR]; split<;>simp<;>omega
 | 3,_=>simp only [refR]; split<;>simp<;>omega
 | 4,_=>simp only [refR]; split<;>simp<;>omega
theorem u8_inj {b:UInt8}{x:Int}(h0:0≤x)(h1:x<256)(h:u8 x=b):(b.toNat:Int)=x:=by rw [←h,u8_val h0 h1]
theorem u8_eq {b:UInt8}{x:Int}(h:(b.toNat:Int)=x):u8 x=b:=by
 have h8:=b.toNat_lt;apply UInt8.toNat_inj.1;have:=u8_val (x:=x) (by omega) (by omega)
 omega
theorem nx_ref {s:ByteArray}{i n:Nat}(h1:1≤n)(h4:n≤4)(hle:i+n≤s.size):putL (refR s i n n)=(s.data.toList.drop i).take n↔nx s i=(((refR s i n n:Nat):Int),n):=by
 obtain ⟨l,hl,hlen,hg⟩:=take_bytes (s:=s) (i:=i) (n:=n) hle;rw [hl];have e0:¬ s.size≤i:=by omega
 unfold nx;rw [if_neg e0];have n4:n=1∨n=2∨n=3∨n=4:=by omega
 rcases n4 with rfl|rfl|rfl|rfl
 · match l,hlen with
   | [b0],_ =>
    have g0:=hg 0 b0 rfl;simp only [Nat.add_zero] at g0;have b8:=b0.toNat_lt;simp only [refR,if_true,g0];unfold putL;rw [if_neg (by omega)]
    by_cases c:b0.toNat<128
    · rw [if_pos (by omega),if_pos c]
      simp only [iff_true,List.cons.injEq,and_true];exact u8_eq rfl
    · rw [if_neg (by omega),if_pos (by omega),if_neg c]
      constructor
      · intro h; simp at h
      · intro h
        exfalso
        repeat' split at h
        all_goals simp at h
 · match l,hlen with
   | [b0,b1],_ =>
    have g0:=hg 0 b0 rfl;have g1:=hg 1 b1 rfl;simp only [Nat.add_zero] at g0;have b8:=b0.toNat_lt;have b8':=b1.toNat_lt;simp only [refR,show ¬ (2=1) by omega,if_false,g0,g1,show (2:Nat) ^ (7-2)=32 from rfl]
    constructor
    · intro h
      unfold putL at h
      repeat' split at h
      all_goals simp at h
      rename_i k1 k2 k3;have q0:=u8_inj (by omega) (by omega) h.1
      have q1:=u8_inj (by omega) (by omega) h.2
      rw [if_neg (by omega),if_neg (by omega),if_pos (by omega),if_pos ⟨hle,by simp only [contB,beq_iff_eq]; omega,by omega⟩]
    · intro h
      by_cases c1:b0.toNat<128
      · rw [if_pos c1] at h; simp at h
      rw [if_neg c1] at h;by_cases c2:b0.toNat<192
      · rw [if_pos c2] at h; simp at h
      rw [if_neg c2] at h;by_cases c3:b0.toNat<224
      · rw [if_pos c3] at h
        split at h
        · rename_i hc
          obtain ⟨_,hc,hr⟩:=hc;simp only [contB,beq_iff_eq] at hc;unfold putL;rw [if_neg (by omega),if_neg (by omega),if_pos (by omega),u8_eq (b:=b0) (by omega),u8_eq (b:=b1) (by omega)]
        · simp at h
      · rw [if_neg c3] at h
        exfalso
        repeat' split at h
        all_goals simp at h
 · match l,hlen with
   | [b0,b1,b2],_ =>
    have g0:=hg 0 b0 rfl;have g1:=hg 1 b1 rfl;have g2:=hg 2 b2 rfl;simp only [Nat.add_zero] at g0;have b8:=b0.toNat_lt;have b8':=b1.toNat_lt;have b8'':=b2.toNat_lt;simp only [refR,show ¬ (3=1) by omega,if_false,g0,g1,g2,show (2:Nat) ^ (7-3)=16 from rfl]
    have e1:(b0.toNat%16*64+b1.toNat%64)*64+b2.toNat%64=b0.toNat%16*4096+b1.toNat%64*64+b2.toNat%64:=by omega
    rw [e1];constructor
    · intro h
      unfold putL at h
      repeat' split at h
      all_goals simp at h
      rename_i k1 k2 k3 k4;have q0:=u8_inj (by omega) (by omega) h.1
      have q1:=u8_inj (by omega) (by omega) h.2.1
      have q2:=u8_inj (by omega) (by omega) h.2.2
      rw [if_neg (by omega),if_neg (by omega),if_neg (by omega),if_pos (by omega),if_pos ⟨hle,by simp only [contB,beq_iff_eq]; omega,by simp only [contB,beq_iff_eq]; omega,by omega,by omega⟩]
    · intro h
      by_cases c1:b0.toNat<128
      · rw [if_pos c1] at h; simp at h
      rw [if_neg c1] at h;by_cases c2:b0.toNat<192
      · rw [if_pos c2] at h; simp at h
      rw [if_neg c2] at h;by_cases c3:b0.toNat<224
      · rw [if_pos c3] at h
        exfalso
        repeat' split at h
        all_goals simp at h
      rw [if_neg c3] at h;by_cases c4:b0.toNat<240
      · rw [if_pos c4] at h
        split at h
        · rename_i hc
          obtain ⟨_,hc,hc2,hr,hr2⟩:=hc;simp only [contB,beq_iff_eq] at hc hc2;unfold putL;rw [if_neg (by omega),if_neg (by omega),if_neg (by omega),if_pos (by omega),u8_eq (b:=b0) (by omega),u8_eq (b:=b1) (by omega),u8_eq (b:=b2) (by omega)]
        · simp at h
      · rw [if_neg c4] at h
        exfalso
        repeat' split at h
        all_goals simp at h
 · match l,hlen with
   | [b0,b1,b2,b3],_ =>
    have g0:=hg 0 b0 rfl;have g1:=hg 1 b1 rfl;have g2:=hg 2 b2 rfl;have g3:=hg 3 b3 rfl;simp only [Nat.add_zero] at g0;have b8:=b0.toNat_lt;have b8':=b1.toNat_lt;have b8'':=b2.toNat_lt;have b83:=b3.toNat_lt;simp only [refR,show ¬ (4=1) by omega,if_false,g0,g1,g2,g3,show (2:Nat) ^ (7-4)=8 from rfl]
    have e1:((b0.toNat%8*64+b1.toNat%64)*64+b2.toNat%64)*64+b3.toNat%64=b0.toNat%8*262144+b1.toNat%64*4096+b2.toNat%64*64+b3.toNat%64:=by omega
    rw [e1];constructor
    · intro h
      unfold putL at h
      repeat' split at h
      all_goals simp at h
      rename_i k1 k2 k3 k4;have q0:=u8_inj (by omega) (by omega) h.1
      have q1:=u8_inj (by omega) (by omega) h.2.1
      have q2:=u8_inj (by omega) (by omega) h.2.2.1
      have q3:=u8_inj (by omega) (by omega) h.2.2.2
      rw [if_neg (by omega),if_neg (by omega),if_neg (by omega),if_neg (by omega),if_pos (by omega),if_pos ⟨hle,by simp only [contB,beq_iff_eq]; omega,by simp only [contB,beq_iff_eq]; omega,by simp only [contB,beq_iff_eq]; omega,by omega,by omega⟩]
    · intro h
      by_cases c1:b0.toNat<128
      · rw [if_pos c1] at h; simp at h
      rw [if_neg c1] at h;by_cases c2:b0.toNat<192
      · rw [if_pos c2] at h; simp at h
      rw [if_neg c2] at h;by_cases c3:b0.toNat<224
      · rw [if_pos c3] at h
        exfalso
        repeat' split at h
        all_goals simp at h
      rw [if_neg c3] at h;by_cases c4:b0.toNat<240
      · rw [if_pos c4] at h
        exfalso
        repeat' split at h
        all_goals simp at h
      rw [if_neg c4] at h;by_cases c5:b0.toNat<248
      · rw [if_pos c5] at h
        split at h
        · rename_i hc
          obtain ⟨_,hc,hc2,hc3,hr,hr2⟩:=hc;simp only [contB,beq_iff_eq] at hc hc2 hc3;unfold putL;rw [if_neg (by omega),if_neg (by omega),if_neg (by omega),if_neg (by omega),u8_eq (b:=b0) (by omega),u8_eq (b:=b1) (by omega),u8_eq (b:=b2) (by omega),u8_eq (b:=b3) (by omega)]
        · simp at h
      · rw [if_neg c5] at h; simp at h
theorem nx_some {s:ByteArray}{i:Nat}(h:(nx s i).2≠0):(nx s i).2≤4∧i+(nx s i).2≤s.size∧nx s i=(((refR s i (nx s i).2 (nx s i).2:Nat):Int),(nx s i).2):=by
 by_cases hi:s.size≤i
 · exfalso; apply h; unfold nx; rw [if_pos hi]
 have hle:=nx_le (s:=s) (i:=i) (by omega)
 have h0:=bt_lt s i;have key:(nx s i).2≤4∧nx s i=(((refR s i (nx s i).2 (nx s i).2:Nat):Int),(nx s i).2):=by
   unfold nx at h ⊢;rw [if_neg hi] at h ⊢;simp only at h ⊢
   repeat' split
   all_goals first
    | (refine ⟨by simp,?_⟩; simp only [refR,if_true]; done)
    | (exfalso; simp_all; done)
    | (refine ⟨by simp,?_⟩; simp [refR]; try omega)
 exact ⟨key.1,hle,key.2⟩
end Vai

namespace Vai
open Go
def digitB (c:Nat):Bool:=decide (48≤c∧c≤57)
def letterB (c:Nat):Bool:=decide ((65≤c∧c≤90)∨(97≤c∧c≤122)∨c=95)
def blankB (c:Nat):Bool:=decide (c=32∨c=9∨c=10∨c=13)
def wordB (c:Nat):Bool:=letterB c||digitB c
def runTo (p:Nat→Bool)(s:ByteArray)(i:Nat):Nat:=if i<s.size∧p (bt s i)=true then runTo p s (i+1) else i
termination_by s.size-i
theorem runTo_ge (p:Nat→Bool)(s:ByteArray)(i:Nat):i≤runTo p s i:=by
 fun_induction runTo p s i with
 | case1 i h ih=>omega
 | case2 i h=>omega
theorem runTo_le {p:Nat→Bool}{s:ByteArray}{i:Nat}(h:i≤s.size):runTo p s i≤s.size:=by
 fun_induction runTo p s i with
 | case1 i h ih=>exact ih (by omega)
 | case2 i h=>exact h
theorem runTo_step {p:Nat→Bool}{s:ByteArray}{i:Nat}(h:i<s.size)(hp:p (bt s i)=true):runTo p s (i+1)=runTo p s i:=by
 conv=>rhs; rw [runTo,if_pos ⟨h,hp⟩]
theorem runTo_stop {p:Nat→Bool}{s:ByteArray}{i:Nat}(h:¬ (i<s.size∧p (bt s i)=true)):runTo p s i=i:=by
 rw [runTo,if_neg h]
theorem nx_char {s:ByteArray}{i:Nat}(h:charB (nx s i).1=true):1≤(nx s i).2∧i+(nx s i).2≤s.size:=by
 by_cases h0:(nx s i).2=0
 · exfalso
   have:nx s i=(0,0):=by
    unfold nx at h0 ⊢;by_cases hi:s.size≤i
    · rw [if_pos hi]
    rw [if_neg hi] at h0 ⊢;simp only at h0 ⊢
    repeat' split
    all_goals first|rfl|(exfalso; simp_all)
   rw [this] at h;simp [charB] at h
 · have:=nx_some h0
   exact ⟨by omega,this.2.1⟩
def cut (s:ByteArray)(i j:Nat):List UInt8:=(s.data.toList.drop i).take (j-i)
theorem extract_cut {s:ByteArray}{i j:Nat}(h:i≤j):s.extract i j=⟨(cut s i j).toArray⟩:=by
 have:=extract_bytes s i (j-i);rw [show i+(j-i)=j by omega] at this
 rw [cut,←this]
theorem cut_len {s:ByteArray}{i j:Nat}(h:j≤s.size):(cut s i j).length=j-i:=by simp [cut]; omega
def txt (s:ByteArray)(fr:Nat)(i:Nat)(out:List UInt8):Except (Nat × Int) (List UInt8 × Nat) :=
 if s.size≤i then .error (fr,84)
 else if bt s i=34 then .ok (out,i)
 else if bt s i=92 then
  if i+1=s.size then .error (fr,84)
  else if bt s (i+1)≠34∧bt s (i+1)≠92 then .error (i,121)
  else if h:charB (nx s (i+1)).1=true then txt s fr (i+1+(nx s (i+1)).2) (out++cut s (i+1) (i+1+(nx s (i+1)).2))
  else .error (i+1,81)
 else if h:charB (nx s i).1=true then txt s fr (i+(nx s i).2) (out++cut s i (i+(nx s i).2))
 else .error (i,81)
termination_by s.size-i
decreasing_by
 · have:=nx_char h; omega
 · have:=nx_char h; omega
def signL (s:ByteArray)(i:Nat):Nat :=
 if i+2≤s.size∧((bt s i=61∧bt s (i+1)=61)∨(bt s i=33∧bt s (i+1)=61)∨(bt s i=60∧bt s (i+1)=61)∨(bt s i=62∧bt s (i+1)=61)∨(bt s i=38∧bt s (i+1)=38)∨(bt s i=124∧bt s (i+1)=124)) then 2
 else if bt s i=43∨bt s i=45∨bt s i=42∨bt s i=47∨bt s i=37∨bt s i=40∨bt s i=41∨bt s i=63∨bt s i=58∨bt s i=33∨bt s i=60∨bt s i=62 then 1
 else 0
def dval (l:List UInt8):Nat:=l.foldl (fun n c=>n*10+(c.toNat-48)) 0
def numS (l:List UInt8):Option Int:=if dval l<9223372036854775808∧¬ (1<l.length∧(l.getD 0 0).toNat=48) then some (dval l:Int) else none
structure Tk where
 kind:Int
 text:ByteArray
 n:Int
 pos:Int
def Tk.t (k:Tk):T:=.agg [.int .i64 k.kind,.str k.text,.int .i64 k.n,.int .i64 k.pos]
def noText:ByteArray:=⟨#[]⟩
def tok1 (s:ByteArray)(i:Nat):Except (Nat × Int) (Tk × Nat) :=
 if digitB (bt s i)=true then
  match numS (cut s i (runTo digitB s i)) with
  | some n=>.ok (⟨1,noText,n,i⟩,runTo digitB s i)
  | none=>.error (i,122)
 else if letterB (bt s i)=true then .ok (⟨3,s.extract i (runTo wordB s i),0,i⟩,runTo wordB s i)
 else if bt s i=34 then
  match txt s i (i+1) [] with
  | .ok (out,e)=>if 64<out.length then .error (i,3) else .ok (⟨2,⟨out.toArray⟩,0,i⟩,e+1)
  | .error f=>.error f
 else if signL s i=0 then .error (i,121)
 else .ok (⟨4,s.extract i (i+signL s i),0,i⟩,i+signL s i)
def toks (s:ByteArray)(i:Nat)(acc:List Tk):Except (Nat × Int) (List Tk) :=
 if s.size≤runTo blankB s i then .ok acc
 else match tok1 s (runTo blankB s i) with
  | .error f=>.error f
  | .ok (t,j)=>if h:i<j∧i<s.size then toks s j (acc ++ [t]) else .ok acc
termination_by s.size-i
def lexS (s:ByteArray):List Tk × Int × Int :=
 if 256<s.size then ([],0,3)
 else if 0≤bad s 0 then ([],bad s 0,71)
 else match toks s 0 [] with
  | .ok l=>(l,0,0)
  | .error (a,w)=>([],a,w)
theorem txt_gt {s:ByteArray}{fr i:Nat}{out out':List UInt8}{e:Nat}(h:txt s fr i out = .ok (out',e)):i≤e∧e<s.size:=by
 fun_induction txt s fr i out with
 | case1=>cases h
 | case2 i out h1 h2=>cases h; omega
 | case3=>cases h
 | case4=>cases h
 | case5 i out h1 h2 h3 h4 h5 hc ih=>have:=ih h; omega
 | case6=>cases h
 | case7 i out h1 h2 h3 hc ih=>have:=ih h; omega
 | case8=>cases h
theorem signL_le {s:ByteArray}{i:Nat}(h:i<s.size):i+signL s i≤s.size:=by
 unfold signL; split
 · omega
 · split<;>omega
theorem tok1_gt {s:ByteArray}{i:Nat}(hi:i<s.size){t:Tk}{j:Nat}(h:tok1 s i = .ok (t,j)):i<j∧j≤s.size:=by
 unfold tok1 at h;split at h
 · rename_i hd
   split at h
   · cases h
     have h1:=runTo_ge digitB s (i+1);rw [runTo_step hi hd] at h1;exact ⟨by omega,runTo_le (by omega)⟩
   · cases h
 · split at h
   · rename_i hl
     cases h;have hw:wordB (bt s i)=true:=by simp [wordB,hl]
     have h1:=runTo_ge wordB s (i+1);rw [runTo_step hi hw] at h1;exact ⟨by omega,runTo_le (by omega)⟩
   · split at h
     · split at h
       · rename_i out e ht
         split at h
         · cases h
         · cases h
           have:=txt_gt ht;omega
       · cases h
     · split at h
       · cases h
       · rename_i hn
         cases h;exact ⟨by omega,signL_le hi⟩
end Vai

namespace Vai
open Go
theorem runTo_all {p:Nat→Bool}{s:ByteArray}{i:Nat}:∀ k,i≤k→k<runTo p s i→p (bt s k)=true:=by
 fun_induction runTo p s i with
 | case1 i h ih =>
  intro k h1 h2;by_cases e:k=i
  · subst e; exact h.2
  · exact ih k (by omega) h2
 | case2 i h=>intro k h1 h2; omega
theorem cut_get {s:ByteArray}{i j k:Nat}{b:UInt8}(h:(cut s i j)[k]?=some b):k<j-i∧bt s (i+k)=b.toNat:=by
 unfold cut at h;rw [List.getElem?_take] at h;split at h
 · rename_i hk
   rw [List.getElem?_drop] at h;simp only [Array.getElem?_toList] at h;exact ⟨hk,by simp only [bt,h]⟩
 · cases h
theorem cut_all {p:Nat→Bool}{s:ByteArray}{i:Nat}:∀ b∈cut s i (runTo p s i),p b.toNat=true:=by
 intro b hb;obtain ⟨k,hk⟩:=List.getElem?_of_mem hb;obtain ⟨h1,h2⟩:=cut_get hk;rw [←h2];exact runTo_all (i:=i) (i+k) (by omega) (by omega)
def dvalF (acc:Nat)(l:List UInt8):Nat:=l.foldl (fun n c=>n*10+(c.toNat-48)) acc
theorem dvalF_ge (acc:Nat)(l:List UInt8):acc≤dvalF acc l:=by
 induction l generalizing acc with
 | nil=>exact Nat.le_refl _
 | cons c l ih =>
  have:=ih (acc*10+(c.toNat-48));simp only [dvalF,List.foldl_cons] at this ⊢;omega
theorem parseM_digits:∀ (l:List UInt8) (acc:Nat),(∀ b∈l,digitB b.toNat=true)→Lib.parseUintM 18446744073709551615 acc l=if dvalF acc l≤18446744073709551615 then .ok (dvalF acc l) else (if l=[] then .ok acc else .range)
 | [],acc,_=>by
  simp only [Lib.parseUintM,dvalF,List.foldl_nil,if_true];split<;>rfl
 | c::r,acc,h=>by
  have hc:=h c List.mem_cons_self;simp only [digitB,decide_eq_true_eq] at hc;have ih:=parseM_digits r (acc*10+(c.toNat-48)) fun b hb=>h b (List.mem_cons_of_mem _ hb)
  have hge:=dvalF_ge (acc*10+(c.toNat-48)) r;have hd:dvalF acc (c::r)=dvalF (acc*10+(c.toNat-48)) r:=rfl;rw [hd];simp only [Lib.parseUintM];rw [if_pos hc];by_cases h1:1844674407370955162≤acc
  · rw [if_pos h1,if_neg (by omega)]
    simp
  · rw [if_neg h1]
    by_cases h2:18446744073709551615<acc*10+(c.toNat-48)
    · rw [if_pos h2,if_neg (by omega)]
      simp
    · rw [if_neg h2,ih]
      split
      · rfl
      · rename_i h3
        by_cases hr:r=[]
        · subst hr
          simp only [dvalF,List.foldl_nil] at h3;omega
        · simp [hr]
theorem parse_digits {l:List UInt8}(hne:l≠[])(h:∀ b∈l,digitB b.toNat=true):Lib.parseIntB 64 l=if dval l<9223372036854775808 then .ok (dval l:Int) else .range:=by
 match l,hne with
 | c::r,_ =>
  have hc:=h c List.mem_cons_self;simp only [digitB,decide_eq_true_eq] at hc;have e1:(2:Nat) ^ 64-1=18446744073709551615:=by decide
  have e2:(2:Nat) ^ (64-1)=9223372036854775808:=by decide
  rw [Lib.parseIntB_plain 64 c r (by omega) (by omega)]
  have hp:=parseM_digits (c::r) 0 h;have hd:dvalF 0 (c::r)=dval (c::r):=rfl;rw [hd] at hp;have hu:Lib.parseUintB 64 (c::r)=Lib.parseUintM 18446744073709551615 0 (c::r):=by simp only [Lib.parseUintB,e1]; rfl
  rw [hu,hp,e2];by_cases h1:dval (c::r)<9223372036854775808
  · rw [if_pos (by omega),if_pos h1]
    simp only [Lib.signlessC];rw [if_neg (by omega)]
  · rw [if_neg h1]
    by_cases h2:dval (c::r)≤18446744073709551615
    · rw [if_pos h2]
      simp only [Lib.signlessC];rw [if_pos (by omega)]
    · rw [if_neg h2]
      simp [Lib.signlessC]
def sgs:List ByteArray:=[⟨#[61,61]⟩,⟨#[33,61]⟩,⟨#[60,61]⟩,⟨#[62,61]⟩,⟨#[38,38]⟩,⟨#[124,124]⟩,⟨#[43]⟩,⟨#[45]⟩,⟨#[42]⟩,⟨#[47]⟩,⟨#[37]⟩,⟨#[40]⟩,⟨#[41]⟩,⟨#[63]⟩,⟨#[58]⟩,⟨#[33]⟩,⟨#[60]⟩,⟨#[62]⟩]
def atS (s:ByteArray)(i:Nat)(x:ByteArray):Bool:=decide (i+x.size≤s.size)&&eqS (s.extract i (i+x.size)) x
theorem cut_two {s:ByteArray}{i:Nat}(h:i+2≤s.size)(a b:UInt8):s.extract i (i+2)=⟨#[a,b]⟩↔bt s i=a.toNat∧bt s (i+1)=b.toNat:=by
 rw [extract_cut (by omega)]
 have e:((⟨(cut s i (i+2)).toArray⟩:ByteArray)=⟨#[a,b]⟩)↔cut s i (i+2)=[a,b]:=ba_eq (b:=[a,b]);rw [e];have hl:=cut_len (s:=s) (i:=i) (j:=i+2) h;generalize hc:cut s i (i+2)=l at hl
 match l,(show l.length=2 by omega) with
 | [x,y],_ =>
  have g0:=(cut_get (s:=s) (i:=i) (j:=i+2) (k:=0) (b:=x) (by rw [hc]; rfl)).2
  have g1:=(cut_get (s:=s) (i:=i) (j:=i+2) (k:=1) (b:=y) (by rw [hc]; rfl)).2
  simp only [Nat.add_zero] at g0;rw [g0,g1];simp only [List.cons.injEq,and_true];constructor
  · rintro ⟨rfl,rfl⟩; exact ⟨rfl,rfl⟩
  · rintro ⟨h1,h2⟩; exact ⟨UInt8.toNat_inj.1 h1,UInt8.toNat_inj.1 h2⟩
theorem cut_one {s:ByteArray}{i:Nat}(h:i+1≤s.size)(a:UInt8):s.extract i (i+1)=⟨#[a]⟩↔bt s i=a.toNat:=by
 rw [extract_cut (by omega)]
 have e:((⟨(cut s i (i+1)).toArray⟩:ByteArray)=⟨#[a]⟩)↔cut s i (i+1)=[a]:=ba_eq (b:=[a]);rw [e];have hl:=cut_len (s:=s) (i:=i) (j:=i+1) h;generalize hc:cut s i (i+1)=l at hl
 match l,(show l.length=1 by omega) with
 | [x],_ =>
  have g0:=(cut_get (s:=s) (i:=i) (j:=i+1) (k:=0) (b:=x) (by rw [hc]; rfl)).2
  simp only [Nat.add_zero] at g0;rw [g0];simp only [List.cons.injEq,and_true];exact ⟨fun h=>by rw [h],fun h=>UInt8.toNat_inj.1 h⟩
theorem atS2 (s:ByteArray)(i:Nat)(a b:UInt8):atS s i ⟨#[a,b]⟩=decide (i+2≤s.size∧bt s i=a.toNat∧bt s (i+1)=b.toNat):=by
 have e:(⟨#[a,b]⟩:ByteArray).size=2:=rfl;unfold atS eqS;rw [e];by_cases h:i+2≤s.size
 · simp only [h,decide_true,Bool.true_and,true_and,cut_two h]
 · simp [h]
theorem atS1 (s:ByteArray)(i:Nat)(a:UInt8):atS s i ⟨#[a]⟩=decide (i+1≤s.size∧bt s i=a.toNat):=by
 have e:(⟨#[a]⟩:ByteArray).size=1:=rfl;unfold atS eqS;rw [e];by_cases h:i+1≤s.size
 · simp only [h,decide_true,Bool.true_and,true_and,cut_one h]
 · simp [h]
theorem sign_find {s:ByteArray}{i:Nat}(hi:i<s.size):match sgs.findIdx? (atS s i) with
   | none=>signL s i=0
   | some k=>∃ x,sgs[k]?=some x∧signL s i≠0∧x=s.extract i (i+signL s i)∧x.size=signL s i:=by
 have hi1:i+1≤s.size:=hi
 have fin:∀ k x,sgs.findIdx? (atS s i)=some k→sgs[k]?=some x→signL s i≠0→x=s.extract i (i+signL s i)→x.size=signL s i→match sgs.findIdx? (atS s i) with
   | none=>signL s i=0
   | some k=>∃ x,sgs[k]?=some x∧signL s i≠0∧x=s.extract i (i+signL s i)∧x.size=signL s i:=fun k x h1 h2 h3 h4 h5=>by rw [h1]; exact ⟨x,h2,h3,h4,h5⟩
 by_cases h2:i+2≤s.size∧((bt s i=61∧bt s (i+1)=61)∨(bt s i=33∧bt s (i+1)=61)∨(bt s i=60∧bt s (i+1)=61)∨(bt s i=62∧bt s (i+1)=61)∨(bt s i=38∧bt s (i+1)=38)∨(bt s i=124∧bt s (i+1)=124))
 · have hs:signL s i=2:=by unfold signL; rw [if_pos h2]
   obtain ⟨hm,h2⟩:=h2;rcases h2 with ⟨ha,hb⟩|⟨ha,hb⟩|⟨ha,hb⟩|⟨ha,hb⟩|⟨ha,hb⟩|⟨ha,hb⟩
   · exact fin 0 ⟨#[61,61]⟩ (by simp [sgs,List.findIdx?_cons,atS2,atS1,hm,ha,hb]) rfl (by omega) (by rw [hs]; exact ((cut_two hm 61 61).2 ⟨ha,hb⟩).symm) (by rw [hs]; rfl)
   · exact fin 1 ⟨#[33,61]⟩ (by simp [sgs,List.findIdx?_cons,atS2,atS1,hm,ha,hb]) rfl (by omega) (by rw [hs]; exact ((cut_two hm 33 61).2 ⟨ha,hb⟩).symm) (by rw [hs]; rfl)
   · exact fin 2 ⟨#[60,61]⟩ (by simp [sgs,List.findIdx?_cons,atS2,atS1,hm,ha,hb]) rfl (by omega) (by rw [hs]; exact ((cut_two hm 60 61).2 ⟨ha,hb⟩).symm) (by rw [hs]; rfl)
   · exact fin 3 ⟨#[62,61]⟩ (by simp [sgs,List.findIdx?_cons,atS2,atS1,hm,ha,hb]) rfl (by omega) (by rw [hs]; exact ((cut_two hm 62 61).2 ⟨ha,hb⟩).symm) (by rw [hs]; rfl)
   · exact fin 4 ⟨#[38,38]⟩ (by simp [sgs,List.findIdx?_cons,atS2,atS1,hm,ha,hb]) rfl (by omega) (by rw [hs]; exact ((cut_two hm 38 38).2 ⟨ha,hb⟩).symm) (by rw [hs]; rfl)
   · exact fin 5 ⟨#[124,124]⟩ (by simp [sgs,List.findIdx?_cons,atS2,atS1,hm,ha,hb]) rfl (by omega) (by rw [hs]; exact ((cut_two hm 124 124).2 ⟨ha,hb⟩).symm) (by rw [hs]; rfl)
 · have n2:¬ (i+2≤s.size∧bt s i=61∧bt s (i+1)=61)∧¬ (i+2≤s.size∧bt s i=33∧bt s (i+1)=61)∧¬ (i+2≤s.size∧bt s i=60∧bt s (i+1)=61)∧¬ (i+2≤s.size∧bt s i=62∧bt s (i+1)=61)∧¬ (i+2≤s.size∧bt s i=38∧bt s (i+1)=38)∧¬ (i+2≤s.size∧bt s i=124∧bt s (i+1)=124):=by
     refine ⟨?_,?_,?_,?_,?_,?_⟩<;>rintro ⟨k1,k2,k3⟩<;>apply h2<;>simp [k1,k2,k3]
   obtain ⟨n1,n2,n3,n4,n5,n6⟩:=n2;by_cases h1:bt s i=43∨bt s i=45∨bt s i=42∨bt s i=47∨bt s i=37∨bt s i=40∨bt s i=41∨bt s i=63∨bt s i=58∨bt s i=33∨bt s i=60∨bt s i=62
   · have hs:signL s i=1:=by unfold signL; rw [if_neg h2,if_pos h1]
     rcases h1 with ha|ha|ha|ha|ha|ha|ha|ha|ha|ha|ha|ha
     · exact fin 6 ⟨#[43]⟩ (by
        rw [ha] at n1 n2 n3 n4 n5 n6;simp only [sgs,List.findIdx?_cons,atS2,atS1,ha];simp [hi1] at n1 n2 n3 n4 n5 n6 ⊢
        try (intros; omega)) rfl (by omega) (by rw [hs]; exact ((cut_one hi1 43).2 ha).symm) (by rw [hs]; rfl)
     · exact fin 7 ⟨#[45]⟩ (by
        rw [ha] at n1 n2 n3 n4 n5 n6;simp only [sgs,List.findIdx?_cons,atS2,atS1,ha];simp [hi1] at n1 n2 n3 n4 n5 n6 ⊢
        try (intros; omega)) rfl (by omega) (by rw [hs]; exact ((cut_one hi1 45).2 ha).symm) (by rw [hs]; rfl)
     · exact fin 8 ⟨#[42]⟩ (by
        rw [ha] at n1 n2 n3 n4 n5 n6;simp only [sgs,List.findIdx?_cons,atS2,atS1,ha];simp [hi1] at n1 n2 n3 n4 n5 n6 ⊢
        try (intros; omega)) rfl (by omega) (by rw [hs]; exact ((cut_one hi1 42).2 ha).symm) (by rw [hs]; rfl)
     · exact fin 9 ⟨#[47]⟩ (by
        rw [ha] at n1 n2 n3 n4 n5 n6;simp only [sgs,List.findIdx?_cons,atS2,atS1,ha];simp [hi1] at n1 n2 n3 n4 n5 n6 ⊢
        try (intros; omega)) rfl (by omega) (by rw [hs]; exact ((cut_one hi1 47).2 ha).symm) (by rw [hs]; rfl)
     · exact fin 10 ⟨#[37]⟩ (by
        rw [ha] at n1 n2 n3 n4 n5 n6;simp only [sgs,List.findIdx?_cons,atS2,atS1,ha];simp [hi1] at n1 n2 n3 n4 n5 n6 ⊢
        try (intros; omega)) rfl (by omega) (by rw [hs]; exact ((cut_one hi1 37).2 ha).symm) (by rw [hs]; rfl)
     · exact fin 11 ⟨#[40]⟩ (by
        rw [ha] at n1 n2 n3 n4 n5 n6;simp only [sgs,List.findIdx?_cons,atS2,atS1,ha];simp [hi1] at n1 n2 n3 n4 n5 n6 ⊢
        try (intros; omega)) rfl (by omega) (by rw [hs]; exact ((cut_one hi1 40).2 ha).symm) (by rw [hs]; rfl)
     · exact fin 12 ⟨#[41]⟩ (by
        rw [ha] at n1 n2 n3 n4 n5 n6;simp only [sgs,List.findIdx?_cons,atS2,atS1,ha];simp [hi1] at n1 n2 n3 n4 n5 n6 ⊢
        try (intros; omega)) rfl (by omega) (by rw [hs]; exact ((cut_one hi1 41).2 ha).symm) (by rw [hs]; rfl)
     · exact fin 13 ⟨#[63]⟩ (by
        rw [ha] at n1 n2 n3 n4 n5 n6;simp only [sgs,List.findIdx?_cons,atS2,atS1,ha];simp [hi1] at n1 n2 n3 n4 n5 n6 ⊢
        try (intros; omega)) rfl (by omega) (by rw [hs]; exact ((cut_one hi1 63).2 ha).symm) (by rw [hs]; rfl)
     · exact fin 14 ⟨#[58]⟩ (by
        rw [ha] at n1 n2 n3 n4 n5 n6;simp only [sgs,List.findIdx?_cons,atS2,atS1,ha];simp [hi1] at n1 n2 n3 n4 n5 n6 ⊢
        try (intros; omega)) rfl (by omega) (by rw [hs]; exact ((cut_one hi1 58).2 ha).symm) (by rw [hs]; rfl)
     · exact fin 15 ⟨#[33]⟩ (by
        rw [ha] at n1 n2 n3 n4 n5 n6;simp only [sgs,List.findIdx?_cons,atS2,atS1,ha];simp [hi1] at n1 n2 n3 n4 n5 n6 ⊢
        try (intros; omega)) rfl (by omega) (by rw [hs]; exact ((cut_one hi1 33).2 ha).symm) (by rw [hs]; rfl)
     · exact fin 16 ⟨#[60]⟩ (by
        rw [ha] at n1 n2 n3 n4 n5 n6;simp only [sgs,List.findIdx?_cons,atS2,atS1,ha];simp [hi1] at n1 n2 n3 n4 n5 n6 ⊢
        try (intros; omega)) rfl (by omega) (by rw [hs]; exact ((cut_one hi1 60).2 ha).symm) (by rw [hs]; rfl)
     · exact fin 17 ⟨#[62]⟩ (by
        rw [ha] at n1 n2 n3 n4 n5 n6;simp only [sgs,List.findIdx?_cons,atS2,atS1,ha];simp [hi1] at n1 n2 n3 n4 n5 n6 ⊢
        try (intros; omega)) rfl (by omega) (by rw [hs]; exact ((cut_one hi1 62).2 ha).symm) (by rw [hs]; rfl)
   · have hs:signL s i=0:=by unfold signL; rw [if_neg h2,if_neg h1]
     have:sgs.findIdx? (atS s i)=none:=by
       simp only [not_or] at h1;simp only [sgs,List.findIdx?_cons,atS2,atS1];simp [n1,n2,n3,n4,n5,n6,h1]
       try omega
     rw [this];exact hs
end Vai

namespace Vai
open Go
def dchr (n:Nat):UInt8:=UInt8.ofNat (48+n%10)
def dig (n:Nat):List UInt8:=if n<10 then [dchr n] else dig (n/10) ++ [dchr n]
def decL (x:Int):List UInt8:=if x<0 then 45::dig x.natAbs else dig x.natAbs
theorem dchr_nat (n:Nat):(dchr n).toNat=48+n%10:=by
 unfold dchr;rw [UInt8.toNat_ofNat'];omega
theorem dig_small {n:Nat}(h:n<10):dig n=[dchr n]:=by rw [dig,if_pos h]
theorem dig_big {n:Nat}(h:¬ n<10):dig n=dig (n/10) ++ [dchr n]:=by rw [dig,if_neg h]
theorem dval_snoc (l:List UInt8)(c:UInt8):dval (l ++ [c])=dval l*10+(c.toNat-48):=by simp [dval]
theorem dval_dig (n:Nat):dval (dig n)=n:=by
 fun_induction dig n with
 | case1 n h =>
  have:=dchr_nat n;simp only [dval,List.foldl_cons,List.foldl_nil];omega
 | case2 n h ih =>
  have:=dchr_nat n;rw [dval_snoc,ih];omega
theorem dig_len {n k:Nat}(hk:0<k)(h:n<10 ^ k):(dig n).length≤k:=by
 fun_induction dig n generalizing k with
 | case1 n h1=>simp only [List.length_singleton]; exact hk
 | case2 n h1 ih =>
  match k,hk with
  | 1,_=>simp at h; omega
  | k+2,_ =>
   have:=@ih (k+1) (by omega) (by rw [Nat.pow_succ] at h; omega)
   simp; omega
theorem dig_len_ge {n k:Nat}(h:10 ^ k≤n):k<(dig n).length:=by
 fun_induction dig n generalizing k with
 | case1 n h1 =>
  match k with
  | 0=>simp
  | k+1 =>
   have:1≤10 ^ k:=Nat.one_le_pow _ _ (by omega)
   rw [Nat.pow_succ] at h; omega
 | case2 n h1 ih =>
  match k with
  | 0=>simp
  | k+1 =>
   have:=@ih k (by rw [Nat.pow_succ] at h; omega)
   simp; omega
theorem dval_lt:∀ (k:Nat) (l:List UInt8),l.length=k→(∀ b∈l,digitB b.toNat=true)→dval l<10 ^ k
 | 0,l,hl,h=>by
  have:l=[]:=List.length_eq_zero_iff.1 hl;subst this; simp [dval]
 | k+1,l,hl,h=>by
  have hne:l≠[]:=fun e=>by subst e; simp at hl
  obtain ⟨i,c,rfl⟩:∃ i c,l=i ++ [c]:=⟨l.dropLast,l.getLast hne,(List.dropLast_concat_getLast hne).symm⟩;have hc:=h c (by simp)
  simp only [digitB,decide_eq_true_eq] at hc;have:=dval_lt k i (by simpa using hl) fun b hb=>h b (by simp [hb])
  rw [dval_snoc,Nat.pow_succ];omega
theorem dig_dval:∀ (k:Nat) (l:List UInt8),l.length=k→l≠[]→(∀ b∈l,digitB b.toNat=true)→(1<l.length→(l.getD 0 0).toNat≠48)→dig (dval l)=l∧(1<l.length→10≤dval l)∧((l.getD 0 0).toNat≠48→dval l≠0)
 | 0,l,hl,hne,_,_=>absurd (List.length_eq_zero_iff.1 hl) hne
 | k+1,l,hl,hne,h,h0=>by
  obtain ⟨i,c,rfl⟩:∃ i c,l=i ++ [c]:=⟨l.dropLast,l.getLast hne,(List.dropLast_concat_getLast hne).symm⟩;have hc:=h c (by simp)
  simp only [digitB,decide_eq_true_eq] at hc;have hcc:∀ n,n%10=c.toNat-48→dchr n=c:=fun n hn=>UInt8.toNat_inj.1 (by rw [dchr_nat,hn]; omega)
  rw [dval_snoc]
  cases i with
  | nil =>
   simp only [List.nil_append,List.length_singleton];refine ⟨?_,fun h=>by omega,fun h=>?_⟩
   · rw [dig_small (by simp [dval]; omega)]
     rw [hcc _ (by simp [dval]; omega)]
   · simp at h; simp [dval]; omega
  | cons d i =>
   have hd0:(d:UInt8).toNat≠48:=by simpa using h0 (by simp)
   obtain ⟨ih1,ih2,ih3⟩:=dig_dval k (d::i) (by simpa using hl) (by simp) (fun b hb=>h b (by simp at hb ⊢; rcases hb with rfl|hb<;>simp_all)) (fun _=>by simpa using hd0)
   have hnz:=ih3 (by simpa using hd0)
   refine ⟨?_,fun _=>by omega,fun _=>by omega⟩
   rw [dig_big (by omega),hcc _ (by omega),show (dval (d::i)*10+(c.toNat-48))/10=dval (d::i) by omega,ih1]
theorem dig_head (n:Nat):1<(dig n).length→((dig n).getD 0 0).toNat≠48:=by
 fun_induction dig n with
 | case1 n h=>intro h; simp at h
 | case2 n h ih =>
  intro _;by_cases hl:1<(dig (n/10)).length
  · have:=ih hl
    have e:(dig (n/10) ++ [dchr n]).getD 0 0=(dig (n/10)).getD 0 0:=by
     simp only [List.getD_eq_getElem?_getD];rw [List.getElem?_append_left (by omega)]
    rw [e]; exact this
  · have h10:n/10<10:=by
     apply Classical.byContradiction;intro hh;have:=dig_len_ge (n:=n/10) (k:=1) (by omega)
     omega
    rw [dig_small h10];have:=dchr_nat (n/10);simp;omega
theorem numS_dig {n:Nat}(h:n<9223372036854775808):numS (dig n)=some (n:Int):=by
 unfold numS;rw [dval_dig,if_pos ⟨h,fun hh=>dig_head n hh.1 hh.2⟩]
theorem numS_yes {l:List UInt8}(hne:l≠[])(h:∀ b∈l,digitB b.toNat=true)(hd:dval l<9223372036854775808)(he:dig (dval l)=l):numS l=some (dval l:Int):=by
 have:=numS_dig hd
 rwa [he] at this
theorem numS_no {l:List UInt8}(hne:l≠[])(h:∀ b∈l,digitB b.toNat=true)(he:¬ (dval l<9223372036854775808∧dig (dval l)=l)):numS l=none:=by
 unfold numS;apply if_neg;rintro ⟨h1,h2⟩;exact he ⟨h1,(dig_dval _ l rfl hne h fun hl e=>h2 ⟨hl,e⟩).1⟩
theorem numS_long {l:List UInt8}(hne:l≠[])(h:∀ b∈l,digitB b.toNat=true)(hl:19<l.length):numS l=none:=by
 apply numS_no hne h;rintro ⟨h1,h2⟩;have:=dig_len (n:=dval l) (k:=19) (by omega) (by omega)
 rw [h2] at this;omega
end Vai

namespace Vai
open Go
theorem nx_ascii {s:ByteArray}{i:Nat}(h:i<s.size)(hb:bt s i<128):nx s i=((bt s i:Int),1):=by
 unfold nx;rw [if_neg (by omega)]
 simp only;rw [if_pos hb]
theorem bt_list {l:List UInt8}{k:Nat}{b:UInt8}(h:l[k]?=some b):bt ⟨l.toArray⟩ k=b.toNat:=by
 simp only [bt,List.getElem?_toArray,h]
theorem size_list (l:List UInt8):(⟨l.toArray⟩:ByteArray).size=l.length:=by simp [ByteArray.size]
theorem bt_list_mem {l:List UInt8}{k:Nat}(h:k<l.length):∃ b∈l,bt ⟨l.toArray⟩ k=b.toNat∧l[k]?=some b :=
 ⟨l[k],List.getElem_mem h,bt_list (List.getElem?_eq_getElem h),List.getElem?_eq_getElem h⟩
theorem toks_over {s:ByteArray}{i:Nat}{l:List Tk}(h:s.size≤i):toks s i l = .ok l:=by
 have:=runTo_ge blankB s i;rw [toks,if_pos (by omega)]
end Vai

namespace Vai
open Go
def chs (s:ByteArray)(i:Nat):Bool :=
 if s.size≤i then true else if h:(nx s i).2=0∨charB (nx s i).1=false then false else chs s (i+(nx s i).2)
termination_by s.size-i
decreasing_by omega
theorem cont_lt {s:ByteArray}{i:Nat}(h:contB (bt s i)=true):i<s.size:=by
 apply Classical.byContradiction;intro hn;have:bt s i=0:=by
  unfold bt;rw [Array.getElem?_eq_none (by have:s.data.size=s.size:=rfl; omega)]
 rw [this] at h;simp [contB] at h
theorem nx_congr {s q:ByteArray}{i p:Nat}(hi:i<s.size)(hp:p<q.size)(h0:bt s i=bt q p)
   (h1:contB (bt s (i+1))=true∨contB (bt q (p+1))=true→bt s (i+1)=bt q (p+1))
   (h2:224≤bt s i→contB (bt s (i+1))=true→contB (bt s (i+2))=true∨contB (bt q (p+2))=true→bt s (i+2)=bt q (p+2))
   (h3:240≤bt s i→contB (bt s (i+1))=true→contB (bt s (i+2))=true→contB (bt s (i+3))=true∨contB (bt q (p+3))=true→bt s (i+3)=bt q (p+3)):nx s i=nx q p:=by
 have key:∀ (x:ByteArray) (k:Nat),(contB (bt x k)=true)→k<x.size:=fun x k h=>cont_lt h
 unfold nx;simp only [if_neg (show ¬ s.size≤i by omega),if_neg (show ¬ q.size≤p by omega)]
 rw [←h0];by_cases c1:bt s i<128
 · rw [if_pos c1,if_pos c1]
 rw [if_neg c1,if_neg c1];by_cases c2:bt s i<192
 · rw [if_pos c2,if_pos c2]
 rw [if_neg c2,if_neg c2];by_cases k1:contB (bt s (i+1))=true
 · have e1:=h1 (.inl k1)
   have k1':contB (bt q (p+1))=true:=by rw [←e1]; exact k1
   have z1:=key _ _ k1;have z1':=key _ _ k1';by_cases c3:bt s i<224
   · rw [if_pos c3,if_pos c3,←e1]
     have:i+2≤s.size↔p+2≤q.size:=by omega
     simp only [this]
   rw [if_neg c3,if_neg c3];by_cases k2:contB (bt s (i+2))=true
   · have e2:=h2 (by omega) k1 (.inl k2)
     have k2':contB (bt q (p+2))=true:=by rw [←e2]; exact k2
     have z2:=key _ _ k2;have z2':=key _ _ k2';by_cases c4:bt s i<240
     · rw [if_pos c4,if_pos c4,←e1,←e2]
       have:i+3≤s.size↔p+3≤q.size:=by omega
       simp only [this]
     rw [if_neg c4,if_neg c4];by_cases k3:contB (bt s (i+3))=true
     · have e3:=h3 (by omega) k1 k2 (.inl k3)
       have k3':contB (bt q (p+3))=true:=by rw [←e3]; exact k3
       have z3:=key _ _ k3;have z3':=key _ _ k3';rw [←e1,←e2,←e3];have:i+4≤s.size↔p+4≤q.size:=by omega
       simp only [this]
     · have k3':¬ contB (bt q (p+3))=true:=fun h=>k3 (by rw [h3 (by omega) k1 k2 (.inr h)]; exact h)
       simp only [k3,k3',false_and,and_false,if_false,Bool.false_eq_true]
   · have k2':¬ contB (bt q (p+2))=true:=fun h=>k2 (by rw [h2 (by omega) k1 (.inr h)]; exact h)
     simp only [k2,k2',false_and,and_false,if_false,Bool.false_eq_true]
 · have k1':¬ contB (bt q (p+1))=true:=fun h=>k1 (by rw [h1 (.inr h)]; exact h)
   simp only [k1,k1',false_and,and_false,if_false,Bool.false_eq_true]
theorem bt_drop (s:ByteArray)(i:Nat):bt s i=((s.data.toList.drop i).getD 0 0).toNat:=by
 rw [List.getD_eq_getElem?_getD,List.getElem?_drop,Nat.add_zero];unfold bt;simp only [Array.getElem?_toList];cases s.data[i]?<;>rfl
theorem drop_cons {α:Type}{l:List α}{i:Nat}{x:α}{r:List α}(h:l.drop i=x::r):i<l.length∧l.drop (i+1)=r:=by
 have h1:i<l.length:=by
  apply Classical.byContradiction;intro hn;rw [List.drop_of_length_le (by omega)] at h
  cases h
 rw [List.drop_eq_getElem_cons h1] at h;exact ⟨h1,(List.cons.inj h).2⟩
theorem len_bytes (s:ByteArray):s.data.toList.length=s.size:=by simp
def escB (b:UInt8):List UInt8:=if b=34∨b=92 then [92,b] else [b]
def esc (l:List UInt8):List UInt8:=l.flatMap escB
def Esc (s q:ByteArray)(R:List UInt8)(i p:Nat):Prop:=q.data.toList.drop p=esc (s.data.toList.drop i)++34::R
theorem cut_succ {s:ByteArray}{i n:Nat}{x:UInt8}(h:s.data.toList.drop i=x::s.data.toList.drop (i+1)):cut s i (i+(n+1))=x::cut s (i+1) (i+1+n):=by
 unfold cut;rw [h,show i+(n+1)-i=n+1 by omega,show i+1+n-(i+1)=n by omega,List.take_succ_cons]
theorem cut_zero (s:ByteArray)(i:Nat):cut s i (i+0)=[]:=by unfold cut; simp
end Vai
