import Derived.Test.YtaldobgfbkllfaaGreatDoorVaiD
import Derived.Lib.ParseIntBTie
set_option linter.unusedSimpArgs false
set_option linter.unusedVariables false
set_option linter.unusedSectionVars false
namespace Vai
open Go
def putL (r:Int):List UInt8 :=
 if r<0∨1114111<r∨(55296≤r∧r≤57343) then []
 else if r<128 then [u8 r]
 else if r<2048 then [u8 (192+r/64),u8 (128+r%64)]
 else if r<65536 then [u8 (224+r/4096),u8 (128+r/64%64),u8 (128+r%64)]
 else [u8 (240+r/262144),u8 (128+r/4096%64),u8 (128+r/64%64),u8 (128+r%64)]
theorem nat_of {x:Int}{k:Nat}(h0:0≤x)(h1:x<k):∃ n:Fin k,x=((n:Nat):Int):=⟨⟨x.toNat,by omega⟩,by simp; omega⟩
theorem or128 {x:Int}(h0:0≤x)(h1:x<64):intBitsT .or .u8 128 x=some (128+x):=by
 obtain ⟨n,rfl⟩:=nat_of (k:=64) h0 (by omega)
 revert n; decide +kernel
theorem or192 {x:Int}(h0:0≤x)(h1:x<32):intBitsT .or .u8 192 x=some (192+x):=by
 obtain ⟨n,rfl⟩:=nat_of (k:=32) h0 (by omega)
 revert n; decide +kernel
theorem or224 {x:Int}(h0:0≤x)(h1:x<16):intBitsT .or .u8 224 x=some (224+x):=by
 obtain ⟨n,rfl⟩:=nat_of (k:=16) h0 (by omega)
 revert n; decide +kernel
theorem or240 {x:Int}(h0:0≤x)(h1:x<8):intBitsT .or .u8 240 x=some (240+x):=by
 obtain ⟨n,rfl⟩:=nat_of (k:=8) h0 (by omega)
 revert n; decide +kernel
theorem and63 {x:Int}(h0:0≤x)(h1:x<256):intBitsT .and .u8 x 63=some (x%64):=by
 obtain ⟨n,rfl⟩:=nat_of (k:=256) h0 (by omega)
 revert n; decide +kernel
theorem and31 {x:Int}(h0:0≤x)(h1:x<256):intBitsT .and .u8 x 31=some (x%32):=by
 obtain ⟨n,rfl⟩:=nat_of (k:=256) h0 (by omega)
 revert n; decide +kernel
theorem and15 {x:Int}(h0:0≤x)(h1:x<256):intBitsT .and .u8 x 15=some (x%16):=by
 obtain ⟨n,rfl⟩:=nat_of (k:=256) h0 (by omega)
 revert n; decide +kernel
theorem and7 {x:Int}(h0:0≤x)(h1:x<256):intBitsT .and .u8 x 7=some (x%8):=by
 obtain ⟨n,rfl⟩:=nat_of (k:=256) h0 (by omega)
 revert n; decide +kernel
theorem and192 {x:Int}(h0:0≤x)(h1:x<256):intBitsT .and .u8 x 192=some (x/64*64):=by
 obtain ⟨n,rfl⟩:=nat_of (k:=256) h0 (by omega)
 revert n; decide +kernel
theorem or6 {n c:Nat}(hc:c<64)(h:n*64+c<2147483648):intBitsT .or .i32 ((n:Int)*64) (c:Int)=some ((n:Int)*64+c):=by
 have h1:BitVec.ofInt 32 ((n:Int)*64)=BitVec.ofNat 32 (n*64):=by
  rw [show (n:Int)*64=((n*64:Nat):Int) by omega,BitVec.ofInt_natCast]
 have h2:BitVec.ofInt 32 (c:Int)=BitVec.ofNat 32 c:=BitVec.ofInt_natCast ..;have h3:(n*64) |||c=n*64+c:=by
  have:=Nat.shiftLeft_add_eq_or_of_lt (a:=n) (b:=c) (i:=6) hc;rw [Nat.shiftLeft_eq] at this;exact this.symm
 have e32:(2:Nat) ^ 32=4294967296:=by decide
 have m1:n*64%2 ^ 32=n*64:=by rw [e32]; omega
 have m2:c%2 ^ 32=c:=by rw [e32]; omega
 have h4:(BitVec.ofNat 32 (n*64) |||BitVec.ofNat 32 c).toNat=n*64+c:=by
  rw [BitVec.toNat_or,BitVec.toNat_ofNat,BitVec.toNat_ofNat,m1,m2,h3]
 have h5:intBitsT .or .i32 ((n:Int)*64) (c:Int)=some (IntKind.i32.wrap ((BitVec.ofInt 32 ((n:Int)*64) |||BitVec.ofInt 32 (c:Int)).toNat:Int)):=rfl
 rw [h5,h1,h2,h4,wrap_i32 (by omega) (by omega)]
 congr 1
theorem wrap_u8_mod (x:Int):IntKind.u8.wrap x=x%256:=wrap_u8_eq x
theorem u8_val {x:Int}(h0:0≤x)(h1:x<256):((u8 x).toNat:Int)=x:=by rw [u8_toNat]; omega
theorem tmod_pos' {a b:Int}(h:0≤a):a.tmod b=a%b:=Int.tmod_eq_emod_of_nonneg h
theorem fdiv_pos' {a b:Int}(h:0≤b):a.fdiv b=a/b:=Int.fdiv_eq_ediv_of_nonneg _ h
def runeB (r:Int):Bool:=decide (0≤r∧r≤1114111∧(r<55296∨57343<r))
def charB (r:Int):Bool:=decide (0≤r∧r≤1114111∧(r<55296∨57343<r)∧r≠65534∧r≠65535∧(32≤r∨r=9∨r=10∨r=13))
theorem putL_ne {r:Int}:(putL r=[])↔¬ (0≤r∧r≤1114111∧(r<55296∨57343<r)):=by
 unfold putL;by_cases hn:r<0∨1114111<r∨(55296≤r∧r≤57343)
 · rw [if_pos hn]; simp; omega
 · rw [if_neg hn]
   constructor
   · intro h; repeat' split at h
     all_goals simp at h
   · intro h; omega
theorem of_u8 {x y:Int}(h:x=y%256):UInt8.ofNat x.toNat=u8 y:=by unfold u8; rw [h]
def bt (s:ByteArray)(i:Nat):Nat:=match s.data[i]? with|some b=>b.toNat|none=>0
theorem bt_lt (s:ByteArray)(i:Nat):bt s i<256:=by
 unfold bt; split
 · rename_i b _; exact b.toNat_lt
 · omega
theorem bt_get {s:ByteArray}{i:Nat}(h:i<s.size):∃ b,s.data[i]?=some b∧bt s i=b.toNat:=by
 have h':i<s.data.size:=h;have e:s.data[i]?=some s.data[i]:=by simp [h']
 exact ⟨s.data[i],e,by simp only [bt,e]⟩
def contB (c:Nat):Bool:=c/64 == 2
def nx (s:ByteArray)(i:Nat):Int × Nat :=
 if s.size≤i then (0,0) else
 let b0:=bt s i
 let b1:=bt s (i+1)
 let b2:=bt s (i+2)
 let b3:=bt s (i+3)
 if b0<128 then (b0,1)
 else if b0<192 then (0,0)
 else if b0<224 then
  let r:=b0%32*64+b1%64
  if i+2≤s.size∧contB b1=true∧128≤r then (r,2) else (0,0)
 else if b0<240 then
  let r:=b0%16*4096+b1%64*64+b2%64
  if i+3≤s.size∧contB b1=true∧contB b2=true∧2048≤r∧(r<55296∨57343<r) then (r,3) else (0,0)
 else if b0<248 then
  let r:=b0%8*262144+b1%64*4096+b2%64*64+b3%64
  if i+4≤s.size∧contB b1=true∧contB b2=true∧contB b3=true∧65536≤r∧r≤1114111 then (r,4) else (0,0)
 else (0,0)
theorem putL_len (r:Int):(putL r).length=if r<0∨1114111<r∨(55296≤r∧r≤57343) then 0 else if r<128 then 1 else if r<2048 then 2 else if r<65536 then 3 else 4:=by
 unfold putL; repeat' split
 all_goals rfl
def accR (r:Nat)(cs:List UInt8):Nat:=cs.foldl (fun r c=>r*64+c.toNat%64) r
theorem accR_snoc (r:Nat)(cs:List UInt8)(c:UInt8):accR r (cs ++ [c])=accR r cs*64+c.toNat%64:=by simp [accR]
theorem accR_lt (r:Nat)(cs:List UInt8):accR r cs<(r+1)*64 ^ cs.length:=by
 induction cs generalizing r with
 | nil=>simp [accR]
 | cons c cs ih =>
  have:=ih (r*64+c.toNat%64);simp only [accR,List.foldl_cons,List.length_cons] at this ⊢;refine Nat.lt_of_lt_of_le this ?_;rw [Nat.pow_succ,Nat.mul_comm (64 ^ cs.length) 64,←Nat.mul_assoc];exact Nat.mul_le_mul_right _ (by have:=c.toNat_lt; omega)
theorem extract_bytes (s:ByteArray)(a n:Nat):(s.extract a (a+n)).data.toList=(s.data.toList.drop a).take n:=by
 simp [ByteArray.data_extract]
theorem take_bytes {s:ByteArray}{i:Nat}:∀ {n:Nat},i+n≤s.size→∃ l:List UInt8,(s.data.toList.drop i).take n=l∧l.length=n∧∀ j b,l[j]?=some b→bt s (i+j)=b.toNat:=by
 intro n h;refine ⟨_,rfl,by simp; omega,fun j b hj=>?_⟩
 rw [List.getElem?_take] at hj;split at hj
 · rw [List.getElem?_drop] at hj
   simp only [Array.getElem?_toList] at hj;simp only [bt,hj]
 · cases hj
theorem nx_multi {s:ByteArray}{i n r0:Nat}(hi:i<s.size)(h:(n=2∧192≤bt s i∧bt s i<224∧r0=bt s i%32)∨(n=3∧224≤bt s i∧bt s i<240∧r0=bt s i%16)∨(n=4∧240≤bt s i∧bt s i<248∧r0=bt s i%8)) :
   nx s i=if i+n≤s.size∧((s.data.toList.drop (i+1)).take (n-1)).all (fun c=>contB c.toNat)=true∧(putL (accR r0 ((s.data.toList.drop (i+1)).take (n-1)))).length=n then (((accR r0 ((s.data.toList.drop (i+1)).take (n-1)):Nat):Int),n) else (0,0):=by
 unfold nx;rw [if_neg (by omega)]
 rcases h with ⟨rfl,h1,h2,rfl⟩|⟨rfl,h1,h2,rfl⟩|⟨rfl,h1,h2,rfl⟩
 · simp only [if_neg (show ¬ bt s i<128 by omega),if_neg (show ¬ bt s i<192 by omega),if_pos h2]
   by_cases hm:i+2≤s.size
   · obtain ⟨l,hl,hlen,hg⟩:=take_bytes (s:=s) (i:=i+1) (n:=1) (by omega)
     simp only [show 2-1=1 from rfl,hl]
     match l,hlen with
     | [c1],_ =>
      have g1:=hg 0 c1 rfl;simp only [Nat.add_zero] at g1;simp only [List.all_cons,List.all_nil,Bool.and_true,accR,List.foldl_cons,List.foldl_nil,putL_len,g1,hm,true_and];have b8:=c1.toNat_lt;by_cases hc:contB c1.toNat=true
      · simp only [hc,true_and]
        by_cases hr:128≤bt s i%32*64+c1.toNat%64
        · rw [if_pos hr,if_pos ?_]
          rw [if_neg (by omega),if_neg (by omega),if_pos (by omega)]
        · rw [if_neg hr,if_neg ?_]
          rw [if_neg (by omega),if_pos (by omega)]; omega
      · simp only [hc,false_and,if_false,Bool.false_eq_true]
   · simp only [hm,false_and,if_false]
 · simp only [if_neg (show ¬ bt s i<128 by omega),if_neg (show ¬ bt s i<192 by omega),if_neg (show ¬ bt s i<224 by omega),if_pos h2]
   by_cases hm:i+3≤s.size
   · obtain ⟨l,hl,hlen,hg⟩:=take_bytes (s:=s) (i:=i+1) (n:=2) (by omega)
     simp only [show 3-1=2 from rfl,hl]
     match l,hlen with
     | [c1,c2],_ =>
      have g1:=hg 0 c1 rfl;have g2:=hg 1 c2 rfl;simp only [Nat.add_zero] at g1;rw [show i+1+1=i+2 by omega] at g2
      simp only [List.all_cons,List.all_nil,Bool.and_true,Bool.and_eq_true,accR,List.foldl_cons,List.foldl_nil,putL_len,g1,g2,hm,true_and,and_assoc];have b8:=c1.toNat_lt;have e1:(bt s i%16*64+c1.toNat%64)*64+c2.toNat%64=bt s i%16*4096+c1.toNat%64*64+c2.toNat%64:=by omega
      rw [e1];by_cases hc:contB c1.toNat=true
      · by_cases hc2:contB c2.toNat=true
        · simp only [hc,hc2,true_and]
          by_cases hr:2048≤bt s i%16*4096+c1.toNat%64*64+c2.toNat%64∧(bt s i%16*4096+c1.toNat%64*64+c2.toNat%64<55296∨57343<bt s i%16*4096+c1.toNat%64*64+c2.toNat%64)
          · rw [if_pos hr,if_pos ?_]
            rw [if_neg (by omega),if_neg (by omega),if_neg (by omega),if_pos (by omega)]
          · rw [if_neg hr,if_neg ?_]
            repeat' split
            all_goals omega
        · simp only [hc2,false_and,and_false,if_false,Bool.false_eq_true]
      · simp only [hc,false_and,if_false,Bool.false_eq_true]
   · simp only [hm,false_and,if_false]
 · simp only [if_neg (show ¬ bt s i<128 by omega),if_neg (show ¬ bt s i<192 by omega),if_neg (show ¬ bt s i<224 by omega),if_neg (show ¬ bt s i<240 by omega),if_pos h2]
   by_cases hm:i+4≤s.size
   · obtain ⟨l,hl,hlen,hg⟩:=take_bytes (s:=s) (i:=i+1) (n:=3) (by omega)
     simp only [show 4-1=3 from rfl,hl]
     match l,hlen with
     | [c1,c2,c3],_ =>
      have g1:=hg 0 c1 rfl;have g2:=hg 1 c2 rfl;have g3:=hg 2 c3 rfl;simp only [Nat.add_zero] at g1;rw [show i+1+1=i+2 by omega] at g2
      rw [show i+1+2=i+3 by omega] at g3
      simp only [List.all_cons,List.all_nil,Bool.and_true,Bool.and_eq_true,accR,List.foldl_cons,List.foldl_nil,putL_len,g1,g2,g3,hm,true_and,and_assoc];have b8:=c1.toNat_lt;have e1:((bt s i%8*64+c1.toNat%64)*64+c2.toNat%64)*64+c3.toNat%64=bt s i%8*262144+c1.toNat%64*4096+c2.toNat%64*64+c3.toNat%64:=by omega
      rw [e1];by_cases hc:contB c1.toNat=true
      · by_cases hc2:contB c2.toNat=true
        · by_cases hc3:contB c3.toNat=true
          · simp only [hc,hc2,hc3,true_and]
            generalize bt s i%8*262144+c1.toNat%64*4096+c2.toNat%64*64+c3.toNat%64=r;by_cases hr:65536≤r∧r≤1114111
            · rw [if_pos hr,if_pos ?_]
              rw [if_neg (by omega),if_neg (by omega),if_neg (by omega),if_neg (by omega)]
            · rw [if_neg hr,if_neg ?_]
              repeat' split
              all_goals omega
          · simp only [hc3,false_and,and_false,if_false,Bool.false_eq_true]
        · simp only [hc2,false_and,and_false,if_false,Bool.false_eq_true]
      · simp only [hc,false_and,if_false,Bool.false_eq_true]
   · simp only [hm,false_and,if_false]
theorem nx_le {s:ByteArray}{i:Nat}(h:i<s.size):i+(nx s i).2≤s.size:=by
 unfold nx;rw [if_neg (by omega)]
 simp only
 repeat' split
 all_goals simp only
 all_goals omega
def bad (s:ByteArray)(i:Nat):Int :=
 if s.size≤i then -1 else if (nx s i).2=0 then i else bad s (i+(nx s i).2)
termination_by s.size-i
def refR (s:ByteArray)(i n:Nat):Nat→Nat
 | 0=>0
 | 1=>if n=1 then bt s i else bt s i%2 ^ (7-n)
 | k+1=>refR s i n k*64+bt s (i+k)%64
theorem refR_lt (s:ByteArray)(i n:Nat)(hn:1≤n)(hn4:n≤4):∀ k,k≤4→refR s i n k<256*64 ^ (k-1):=by
 intro k hk;have h0:=bt_lt s i;have hp:bt s i%2 ^ (7-n)<256:=Nat.lt_of_le_of_lt (Nat.mod_le _ _) h0
 match k,hk with
 | 0,_=>simp [refR]
 | 1,_=>simp only [refR]; split<;>simp<;>omega
 | 2,_=>simp only [refR]; split<;>simp<;>omega
 | 3,_=>simp only [refR]; split<;>simp<;>omega
 | 4,_=>simp only [refR]; split<;>simp<;>omega
theorem u8_inj {b:UInt8}{x:Int}(h0:0≤x)(h1:x<256)(h:u8 x=b):(b.toNat:Int)=x:=by rw [←h,u8_val h0 h1]
theorem u8_eq {b:UInt8}{x:Int}(h:(b.toNat:Int)=x):u8 x=b:=by
 have h8:=b.toNat_lt;apply UInt8.toNat_inj.1;have:=u8_val (x:=x) (by omega) (by omega)
 omega
theorem nx_ref {s:ByteArray}{i n:Nat}(h1:1≤n)(h4:n≤4)(hle:i+n≤s.size):putL (refR s i n n)=(s.data.toList.drop i).take n↔nx s i=(((refR s i n n:Nat):Int),n):=by
 obtain ⟨l,hl,hlen,hg⟩:=take_bytes (s:=s) (i:=i) (n:=n) hle;rw [hl];have e0:¬ s.size≤i:=by omega
 unfold nx;rw [if_neg e0];have n4:n=1∨n=2∨n=3∨n=4:=by omega
 rcases n4 with rfl|rfl|rfl|rfl
 · match l,hlen with
   | [b0],_ =>
    have g0:=hg 0 b0 rfl;simp only [Nat.add_zero] at g0;have b8:=b0.toNat_lt;simp only [refR,if_true,g0];unfold putL;rw [if_neg (by omega)]
    by_cases c:b0.toNat<128
    · rw [if_pos (by omega),if_pos c]
      simp only [iff_true,List.cons.injEq,and_true];exact u8_eq rfl
    · rw [if_neg (by omega),if_pos (by omega),if_neg c]
      constructor
      · intro h; simp at h
      · intro h
        exfalso
        repeat' split at h
        all_goals simp at h
 · match l,hlen with
   | [b0,b1],_ =>
    have g0:=hg 0 b0 rfl;have g1:=hg 1 b1 rfl;simp only [Nat.add_zero] at g0;have b8:=b0.toNat_lt;have b8':=b1.toNat_lt;simp only [refR,show ¬ (2=1) by omega,if_false,g0,g1,show (2:Nat) ^ (7-2)=32 from rfl]
    constructor
    · intro h
      unfold putL at h
      repeat' split at h
      all_goals simp at h
      rename_i k1 k2 k3;have q0:=u8_inj (by omega) (by omega) h.1
      have q1:=u8_inj (by omega) (by omega) h.2
      rw [if_neg (by omega),if_neg (by omega),if_pos (by omega),if_pos ⟨hle,by simp only [contB,beq_iff_eq]; omega,by omega⟩]
    · intro h
      by_cases c1:b0.toNat<128
      · rw [if_pos c1] at h; simp at h
      rw [if_neg c1] at h;by_cases c2:b0.toNat<192
      · rw [if_pos c2] at h; simp at h
      rw [if_neg c2] at h;by_cases c3:b0.toNat<224
      · rw [if_pos c3] at h
        split at h
        · rename_i hc
          obtain ⟨_,hc,hr⟩:=hc;simp only [contB,beq_iff_eq] at hc;unfold putL;rw [if_neg (by omega),if_neg (by omega),if_pos (by omega),u8_eq (b:=b0) (by omega),u8_eq (b:=b1) (by omega)]
        · simp at h
      · rw [if_neg c3] at h
        exfalso
        repeat' split at h
        all_goals simp at h
 · match l,hlen with
   | [b0,b1,b2],_ =>
    have g0:=hg 0 b0 rfl;have g1:=hg 1 b1 rfl;have g2:=hg 2 b2 rfl;simp only [Nat.add_zero] at g0;have b8:=b0.toNat_lt;have b8':=b1.toNat_lt;have b8'':=b2.toNat_lt;simp only [refR,show ¬ (3=1) by omega,if_false,g0,g1,g2,show (2:Nat) ^ (7-3)=16 from rfl]
    have e1:(b0.toNat%16*64+b1.toNat%64)*64+b2.toNat%64=b0.toNat%16*4096+b1.toNat%64*64+b2.toNat%64:=by omega
    rw [e1];constructor
    · intro h
      unfold putL at h
      repeat' split at h
      all_goals simp at h
      rename_i k1 k2 k3 k4;have q0:=u8_inj (by omega) (by omega) h.1
      have q1:=u8_inj (by omega) (by omega) h.2.1
      have q2:=u8_inj (by omega) (by omega) h.2.2
      rw [if_neg (by omega),if_neg (by omega),if_neg (by omega),if_pos (by omega),if_pos ⟨hle,by simp only [contB,beq_iff_eq]; omega,by simp only [contB,beq_iff_eq]; omega,by omega,by omega⟩]
    · intro h
      by_cases c1:b0.toNat<128
      · rw [if_pos c1] at h; simp at h
      rw [if_neg c1] at h;by_cases c2:b0.toNat<192
      · rw [if_pos c2] at h; simp at h
      rw [if_neg c2] at h;by_cases c3:b0.toNat<224
      · rw [if_pos c3] at h
        exfalso
        repeat' split at h
        all_goals simp at h
      rw [if_neg c3] at h;by_cases c4:b0.toNat<240
      · rw [if_pos c4] at h
        split at h
        · rename_i hc
          obtain ⟨_,hc,hc2,hr,hr2⟩:=hc;simp only [contB,beq_iff_eq] at hc hc2;unfold putL;rw [if_neg (by omega),if_neg (by omega),if_neg (by omega),if_pos (by omega),u8_eq (b:=b0) (by omega),u8_eq (b:=b1) (by omega),u8_eq (b:=b2) (by omega)]
        · simp at h
      · rw [if_neg c4] at h
        exfalso
        repeat' split at h
        all_goals simp at h
 · match l,hlen with
   | [b0,b1,b2,b3],_ =>
    have g0:=hg 0 b0 rfl;have g1:=hg 1 b1 rfl;have g2:=hg 2 b2 rfl;have g3:=hg 3 b3 rfl;simp only [Nat.add_zero] at g0;have b8:=b0.toNat_lt;have b8':=b1.toNat_lt;have b8'':=b2.toNat_lt;have b83:=b3.toNat_lt;simp only [refR,show ¬ (4=1) by omega,if_false,g0,g1,g2,g3,show (2:Nat) ^ (7-4)=8 from rfl]
    have e1:((b0.toNat%8*64+b1.toNat%64)*64+b2.toNat%64)*64+b3.toNat%64=b0.toNat%8*262144+b1.toNat%64*4096+b2.toNat%64*64+b3.toNat%64:=by omega
    rw [e1];constructor
    · intro h
      unfold putL at h
      repeat' split at h
      all_goals simp at h
      rename_i k1 k2 k3 k4;have q0:=u8_inj (by omega) (by omega) h.1
      have q1:=u8_inj (by omega) (by omega) h.2.1
      have q2:=u8_inj (by omega) (by omega) h.2.2.1
      have q3:=u8_inj (by omega) (by omega) h.2.2.2
      rw [if_neg (by omega),if_neg (by omega),if_neg (by omega),if_neg (by omega),if_pos (by omega),if_pos ⟨hle,by simp only [contB,beq_iff_eq]; omega,by simp only [contB,beq_iff_eq]; omega,by simp only [contB,beq_iff_eq]; omega,by omega,by omega⟩]
    · intro h
      by_cases c1:b0.toNat<128
      · rw [if_pos c1] at h; simp at h
      rw [if_neg c1] at h;by_cases c2:b0.toNat<192
      · rw [if_pos c2] at h; simp at h
      rw [if_neg c2] at h;by_cases c3:b0.toNat<224
      · rw [if_pos c3] at h
        exfalso
        repeat' split at h
        all_goals simp at h
      rw [if_neg c3] at h;by_cases c4:b0.toNat<240
      · rw [if_pos c4] at h
        exfalso
        repeat' split at h
        all_goals simp at h
      rw [if_neg c4] at h;by_cases c5:b0.toNat<248
      · rw [if_pos c5] at h
        split at h
        · rename_i hc
          obtain ⟨_,hc,hc2,hc3,hr,hr2⟩:=hc;simp only [contB,beq_iff_eq] at hc hc2 hc3;unfold putL;rw [if_neg (by omega),if_neg (by omega),if_neg (by omega),if_neg (by omega),u8_eq (b:=b0) (by omega),u8_eq (b:=b1) (by omega),u8_eq (b:=b2) (by omega),u8_eq (b:=b3) (by omega)]
        · simp at h
      · rw [if_neg c5] at h; simp at h
theorem nx_some {s:ByteArray}{i:Nat}(h:(nx s i).2≠0):(nx s i).2≤4∧i+(nx s i).2≤s.size∧nx s i=(((refR s i (nx s i).2 (nx s i).2:Nat):Int),(nx s i).2):=by
 by_cases hi:s.size≤i
 · exfalso; apply h; unfold nx; rw [if_pos hi]
 have hle:=nx_le (s:=s) (i:=i) (by omega)
 have h0:=bt_lt s i;have key:(nx s i).2≤4∧nx s i=(((refR s i (nx s i).2 (nx s i).2:Nat):Int),(nx s i).2):=by
   unfold nx at h ⊢;rw [if_neg hi] at h ⊢;simp only at h ⊢
   repeat' split
   all_goals first
    | (refine ⟨by simp,?_⟩; simp only [refR,if_true]; done)
    | (exfalso; simp_all; done)
    | (refine ⟨by simp,?_⟩; simp [refR]; try omega)
 exact ⟨key.1,hle,key.2⟩
end Vai

namespace Vai
open Go
def digitB (c:Nat):Bool:=decide (48≤c∧c≤57)
def letterB (c:Nat):Bool:=decide ((65≤c∧c≤90)∨(97≤c∧c≤122)∨c=95)
def blankB (c:Nat):Bool:=decide (c=32∨c=9∨c=10∨c=13)
def wordB (c:Nat):Bool:=letterB c||digitB c
def runTo (p:Nat→Bool)(s:ByteArray)(i:Nat):Nat:=if i<s.size∧p (bt s i)=true then runTo p s (i+1) else i
termination_by s.size-i
theorem runTo_ge (p:Nat→Bool)(s:ByteArray)(i:Nat):i≤runTo p s i:=by
 fun_induction runTo p s i with
 | case1 i h ih=>omega
 | case2 i h=>omega
theorem runTo_le {p:Nat→Bool}{s:ByteArray}{i:Nat}(h:i≤s.size):runTo p s i≤s.size:=by
 fun_induction runTo p s i with
 | case1 i h ih=>exact ih (by omega)
 | case2 i h=>exact h
theorem runTo_step {p:Nat→Bool}{s:ByteArray}{i:Nat}(h:i<s.size)(hp:p (bt s i)=true):runTo p s (i+1)=runTo p s i:=by
 conv=>rhs; rw [runTo,if_pos ⟨h,hp⟩]
theorem runTo_stop {p:Nat→Bool}{s:ByteArray}{i:Nat}(h:¬ (i<s.size∧p (bt s i)=true)):runTo p s i=i:=by
 rw [runTo,if_neg h]
theorem nx_char {s:ByteArray}{i:Nat}(h:charB (nx s i).1=true):1≤(nx s i).2∧i+(nx s i).2≤s.size:=by
 by_cases h0:(nx s i).2=0
 · exfalso
   have:nx s i=(0,0):=by
    unfold nx at h0 ⊢;by_cases hi:s.size≤i
    · rw [if_pos hi]
    rw [if_neg hi] at h0 ⊢;simp only at h0 ⊢
    repeat' split
    all_goals first|rfl|(exfalso; simp_all)
   rw [this] at h;simp [charB] at h
 · have:=nx_some h0
   exact ⟨by omega,this.2.1⟩
def cut (s:ByteArray)(i j:Nat):List UInt8:=(s.data.toList.drop i).take (j-i)
theorem extract_cut {s:ByteArray}{i j:Nat}(h:i≤j):s.extract i j=⟨(cut s i j).toArray⟩:=by
 have:=extract_bytes s i (j-i);rw [show i+(j-i)=j by omega] at this
 rw [cut,←this]
theorem cut_len {s:ByteArray}{i j:Nat}(h:j≤s.size):(cut s i j).length=j-i:=by simp [cut]; omega
def txt (s:ByteArray)(fr:Nat)(i:Nat)(out:List UInt8):Except (Nat × Int) (List UInt8 × Nat) :=
 if s.size≤i then .error (fr,84)
 else if bt s i=34 then .ok (out,i)
 else if bt s i=92 then
  if i+1=s.size then .error (fr,84)
  else if bt s (i+1)≠34∧bt s (i+1)≠92 then .error (i,121)
  else if h:charB (nx s (i+1)).1=true then txt s fr (i+1+(nx s (i+1)).2) (out++cut s (i+1) (i+1+(nx s (i+1)).2))
  else .error (i+1,81)
 else if h:charB (nx s i).1=true then txt s fr (i+(nx s i).2) (out++cut s i (i+(nx s i).2))
 else .error (i,81)
termination_by s.size-i
decreasing_by
 · have:=nx_char h; omega
 · have:=nx_char h; omega
def signL (s:ByteArray)(i:Nat):Nat :=
 if i+2≤s.size∧((bt s i=61∧bt s (i+1)=61)∨(bt s i=33∧bt s (i+1)=61)∨(bt s i=60∧bt s (i+1)=61)∨(bt s i=62∧bt s (i+1)=61)∨(bt s i=38∧bt s (i+1)=38)∨(bt s i=124∧bt s (i+1)=124)) then 2
 else if bt s i=43∨bt s i=45∨bt s i=42∨bt s i=47∨bt s i=37∨bt s i=40∨bt s i=41∨bt s i=63∨bt s i=58∨bt s i=33∨bt s i=60∨bt s i=62 then 1
 else 0
def dval (l:List UInt8):Nat:=l.foldl (fun n c=>n*10+(c.toNat-48)) 0
def numS (l:List UInt8):Option Int:=if dval l<9223372036854775808∧¬ (1<l.length∧(l.getD 0 0).toNat=48) then some (dval l:Int) else none
structure Tk where
 kind:Int
 text:ByteArray
 n:Int
 pos:Int
def Tk.t (k:Tk):T:=.agg [.int .i64 k.kind,.str k.text,.int .i64 k.n,.int .i64 k.pos]
def noText:ByteArray:=⟨#[]⟩
def tok1 (s:ByteArray)(i:Nat):Except (Nat × Int) (Tk × Nat) :=
 if digitB (bt s i)=true then
  match numS (cut s i (runTo digitB s i)) with
  | some n=>.ok (⟨1,noText,n,i⟩,runTo digitB s i)
  | none=>.error (i,122)
 else if letterB (bt s i)=true then .ok (⟨3,s.extract i (runTo wordB s i),0,i⟩,runTo wordB s i)
 else if bt s i=34 then
  match txt s i (i+1) [] with
  | .ok (out,e)=>if 64<out.length then .error (i,3) else .ok (⟨2,⟨out.toArray⟩,0,i⟩,e+1)
  | .error f=>.error f
 else if signL s i=0 then .error (i,121)
 else .ok (⟨4,s.extract i (i+signL s i),0,i⟩,i+signL s i)
def toks (s:ByteArray)(i:Nat)(acc:List Tk):Except (Nat × Int) (List Tk) :=
 if s.size≤runTo blankB s i then .ok acc
 else match tok1 s (runTo blankB s i) with
  | .error f=>.error f
  | .ok (t,j)=>if h:i<j∧i<s.size then toks s j (acc ++ [t]) else .ok acc
termination_by s.size-i
def lexS (s:ByteArray):List Tk × Int × Int :=
 if 256<s.size then ([],0,3)
 else if 0≤bad s 0 then ([],bad s 0,71)
 else match toks s 0 [] with
  | .ok l=>(l,0,0)
  | .error (a,w)=>([],a,w)
theorem txt_gt {s:ByteArray}{fr i:Nat}{out out':List UInt8}{e:Nat}(h:txt s fr i out = .ok (out',e)):i≤e∧e<s.size:=by
 fun_induction txt s fr i out with
 | case1=>cases h
 | case2 i out h1 h2=>cases h; omega
 | case3=>cases h
 | case4=>cases h
 | case5 i out h1 h2 h3 h4 h5 hc ih=>have:=ih h; omega
 | case6=>cases h
 | case7 i out h1 h2 h3 hc ih=>have:=ih h; omega
 | case8=>cases h
theorem signL_le {s:ByteArray}{i:Nat}(h:i<s.size):i+signL s i≤s.size:=by
 unfold signL; split
 · omega
 · split<;>omega
theorem tok1_gt {s:ByteArray}{i:Nat}(hi:i<s.size){t:Tk}{j:Nat}(h:tok1 s i = .ok (t,j)):i<j∧j≤s.size:=by
 unfold tok1 at h;split at h
 · rename_i hd
   split at h
   · cases h
     have h1:=runTo_ge digitB s (i+1);rw [runTo_step hi hd] at h1;exact ⟨by omega,runTo_le (by omega)⟩
   · cases h
 · split at h
   · rename_i hl
     cases h;have hw:wordB (bt s i)=true:=by simp [wordB,hl]
     have h1:=runTo_ge wordB s (i+1);rw [runTo_step hi hw] at h1;exact ⟨by omega,runTo_le (by omega)⟩
   · split at h
     · split at h
       · rename_i out e ht
         split at h
         · cases h
         · cases h
           have:=txt_gt ht;omega
       · cases h
     · split at h
       · cases h
       · rename_i hn
         cases h;exact ⟨by omega,signL_le hi⟩
end Vai

namespace Vai
open Go
theorem runTo_all {p:Nat→Bool}{s:ByteArray}{i:Nat}:∀ k,i≤k→k<runTo p s i→p (bt s k)=true:=by
 fun_induction runTo p s i with
 | case1 i h ih =>
  intro k h1 h2;by_cases e:k=i
  · subst e; exact h.2
  · exact ih k (by omega) h2
 | case2 i h=>intro k h1 h2; omega
theorem cut_get {s:ByteArray}{i j k:Nat}{b:UInt8}(h:(cut s i j)[k]?=some b):k<j-i∧bt s (i+k)=b.toNat:=by
 unfold cut at h;rw [List.getElem?_take] at h;split at h
 · rename_i hk
   rw [List.getElem?_drop] at h;simp only [Array.getElem?_toList] at h;exact ⟨hk,by simp only [bt,h]⟩
 · cases h
theorem cut_all {p:Nat→Bool}{s:ByteArray}{i:Nat}:∀ b∈cut s i (runTo p s i),p b.toNat=true:=by
 intro b hb;obtain ⟨k,hk⟩:=List.getElem?_of_mem hb;obtain ⟨h1,h2⟩:=cut_get hk;rw [←h2];exact runTo_all (i:=i) (i+k) (by omega) (by omega)
def dvalF (acc:Nat)(l:List UInt8):Nat:=l.foldl (fun n c=>n*10+(c.toNat-48)) acc
theorem dvalF_ge (acc:Nat)(l:List UInt8):acc≤dvalF acc l:=by
 induction l generalizing acc with
 | nil=>exact Nat.le_refl _
 | cons c l ih =>
  have:=ih (acc*10+(c.toNat-48));simp only [dvalF,List.foldl_cons] at this ⊢;omega
theorem parseM_digits:∀ (l:List UInt8) (acc:Nat),(∀ b∈l,digitB b.toNat=true)→Lib.parseUintM 18446744073709551615 acc l=if dvalF acc l≤18446744073709551615 then .ok (dvalF acc l) else (if l=[] then .ok acc else .range)
 | [],acc,_=>by
  simp only [Lib.parseUintM,dvalF,List.foldl_nil,if_true];split<;>rfl
 | c::r,acc,h=>by
  have hc:=h c List.mem_cons_self;simp only [digitB,decide_eq_true_eq] at hc;have ih:=parseM_digits r (acc*10+(c.toNat-48)) fun b hb=>h b (List.mem_cons_of_mem _ hb)
  have hge:=dvalF_ge (acc*10+(c.toNat-48)) r;have hd:dvalF acc (c::r)=dvalF (acc*10+(c.toNat-48)) r:=rfl;rw [hd];simp only [Lib.parseUintM];rw [if_pos hc];by_cases h1:1844674407370955162≤acc
  · rw [if_pos h1,if_neg (by omega)]
    simp
  · rw [if_neg h1]
    by_cases h2:18446744073709551615<acc*10+(c.toNat-48)
    · rw [if_pos h2,if_neg (by omega)]
      simp
    · rw [if_neg h2,ih]
      split
      · rfl
      · rename_i h3
        by_cases hr:r=[]
        · subst hr
          simp only [dvalF,List.foldl_nil] at h3;omega
        · simp [hr]
theorem parse_digits {l:List UInt8}(hne:l≠[])(h:∀ b∈l,digitB b.toNat=true):Lib.parseIntB 64 l=if dval l<9223372036854775808 then .ok (dval l:Int) else .range:=by
 match l,hne with
 | c::r,_ =>
  have hc:=h c List.mem_cons_self;simp only [digitB,decide_eq_true_eq] at hc;have e1:(2:Nat) ^ 64-1=18446744073709551615:=by decide
  have e2:(2:Nat) ^ (64-1)=9223372036854775808:=by decide
  rw [Lib.parseIntB_plain 64 c r (by omega) (by omega)]
  have hp:=parseM_digits (c::r) 0 h;have hd:dvalF 0 (c::r)=dval (c::r):=rfl;rw [hd] at hp;have hu:Lib.parseUintB 64 (c::r)=Lib.parseUintM 18446744073709551615 0 (c::r):=by simp only [Lib.parseUintB,e1]; rfl
  rw [hu,hp,e2];by_cases h1:dval (c::r)<9223372036854775808
  · rw [if_pos (by omega),if_pos h1]
    simp only [Lib.signlessC];rw [if_neg (by omega)]
  · rw [if_neg h1]
    by_cases h2:dval (c::r)≤18446744073709551615
    · rw [if_pos h2]
      simp only [Lib.signlessC];rw [if_pos (by omega)]
    · rw [if_neg h2]
      simp [Lib.signlessC]
def sgs:List ByteArray:=[⟨#[61,61]⟩,⟨#[33,61]⟩,⟨#[60,61]⟩,⟨#[62,61]⟩,⟨#[38,38]⟩,⟨#[124,124]⟩,⟨#[43]⟩,⟨#[45]⟩,⟨#[42]⟩,⟨#[47]⟩,⟨#[37]⟩,⟨#[40]⟩,⟨#[41]⟩,⟨#[63]⟩,⟨#[58]⟩,⟨#[33]⟩,⟨#[60]⟩,⟨#[62]⟩]
def atS (s:ByteArray)(i:Nat)(x:ByteArray):Bool:=decide (i+x.size≤s.size)&&eqS (s.extract i (i+x.size)) x
theorem cut_two {s:ByteArray}{i:Nat}(h:i+2≤s.size)(a b:UInt8):s.extract i (i+2)=⟨#[a,b]⟩↔bt s i=a.toNat∧bt s (i+1)=b.toNat:=by
 rw [extract_cut (by omega)]
 have e:((⟨(cut s i (i+2)).toArray⟩:ByteArray)=⟨#[a,b]⟩)↔cut s i (i+2)=[a,b]:=ba_eq (b:=[a,b]);rw [e];have hl:=cut_len (s:=s) (i:=i) (j:=i+2) h;generalize hc:cut s i (i+2)=l at hl
 match l,(show l.length=2 by omega) with
 | [x,y],_ =>
  have g0:=(cut_get (s:=s) (i:=i) (j:=i+2) (k:=0) (b:=x) (by rw [hc]; rfl)).2
  have g1:=(cut_get (s:=s) (i:=i) (j:=i+2) (k:=1) (b:=y) (by rw [hc]; rfl)).2
  simp only [Nat.add_zero] at g0;rw [g0,g1];simp only [List.cons.injEq,and_true];constructor
  · rintro ⟨rfl,rfl⟩; exact ⟨rfl,rfl⟩
  · rintro ⟨h1,h2⟩; exact ⟨UInt8.toNat_inj.1 h1,UInt8.toNat_inj.1 h2⟩
theorem cut_one {s:ByteArray}{i:Nat}(h:i+1≤s.size)(a:UInt8):s.extract i (i+1)=⟨#[a]⟩↔bt s i=a.toNat:=by
 rw [extract_cut (by omega)]
 have e:((⟨(cut s i (i+1)).toArray⟩:ByteArray)=⟨#[a]⟩)↔cut s i (i+1)=[a]:=ba_eq (b:=[a]);rw [e];have hl:=cut_len (s:=s) (i:=i) (j:=i+1) h;generalize hc:cut s i (i+1)=l at hl
 match l,(show l.length=1 by omega) with
 | [x],_ =>
  have g0:=(cut_get (s:=s) (i:=i) (j:=i+1) (k:=0) (b:=x) (by rw [hc]; rfl)).2
  simp only [Nat.add_zero] at g0;rw [g0];simp only [List.cons.injEq,and_true];exact ⟨fun h=>by rw [h],fun h=>UInt8.toNat_inj.1 h⟩
theorem atS2 (s:ByteArray)(i:Nat)(a b:UInt8):atS s i ⟨#[a,b]⟩=decide (i+2≤s.size∧bt s i=a.toNat∧bt s (i+1)=b.toNat):=by
 have e:(⟨#[a,b]⟩:ByteArray).size=2:=rfl;unfold atS eqS;rw [e];by_cases h:i+2≤s.size
 · simp only [h,decide_true,Bool.true_and,true_and,cut_two h]
 · simp [h]
theorem atS1 (s:ByteArray)(i:Nat)(a:UInt8):atS s i ⟨#[a]⟩=decide (i+1≤s.size∧bt s i=a.toNat):=by
 have e:(⟨#[a]⟩:ByteArray).size=1:=rfl;unfold atS eqS;rw [e];by_cases h:i+1≤s.size
 · simp only [h,decide_true,Bool.true_and,true_and,cut_one h]
 · simp [h]
theorem sign_find {s:ByteArray}{i:Nat}(hi:i<s.size):match sgs.findIdx? (atS s i) with
   | none=>signL s i=0
   | some k=>∃ x,sgs[k]?=some x∧signL s i≠0∧x=s.extract i (i+signL s i)∧x.size=signL s i:=by
 have hi1:i+1≤s.size:=hi
 have fin:∀ k x,sgs.findIdx? (atS s i)=some k→sgs[k]?=some x→signL s i≠0→x=s.extract i (i+signL s i)→x.size=signL s i→match sgs.findIdx? (atS s i) with
   | none=>signL s i=0
   | some k=>∃ x,sgs[k]?=some x∧signL s i≠0∧x=s.extract i (i+signL s i)∧x.size=signL s i:=fun k x h1 h2 h3 h4 h5=>by rw [h1]; exact ⟨x,h2,h3,h4,h5⟩
 by_cases h2:i+2≤s.size∧((bt s i=61∧bt s (i+1)=61)∨(bt s i=33∧bt s (i+1)=61)∨(bt s i=60∧bt s (i+1)=61)∨(bt s i=62∧bt s (i+1)=61)∨(bt s i=38∧bt s (i+1)=38)∨(bt s i=124∧bt s (i+1)=124))
 · have hs:signL s i=2:=by unfold signL; rw [if_pos h2]
   obtain ⟨hm,h2⟩:=h2;rcases h2 with ⟨ha,hb⟩|⟨ha,hb⟩|⟨ha,hb⟩|⟨ha,hb⟩|⟨ha,hb⟩|⟨ha,hb⟩
   · exact fin 0 ⟨#[61,61]⟩ (by simp [sgs,List.findIdx?_cons,atS2,atS1,hm,ha,hb]) rfl (by omega) (by rw [hs]; exact ((cut_two hm 61 61).2 ⟨ha,hb⟩).symm) (by rw [hs]; rfl)
   · exact fin 1 ⟨#[33,61]⟩ (by simp [sgs,List.findIdx?_cons,atS2,atS1,hm,ha,hb]) rfl (by omega) (by rw [hs]; exact ((cut_two hm 33 61).2 ⟨ha,hb⟩).symm) (by rw [hs]; rfl)
   · exact fin 2 ⟨#[60,61]⟩ (by simp [sgs,List.findIdx?_cons,atS2,atS1,hm,ha,hb]) rfl (by omega) (by rw [hs]; exact ((cut_two hm 60 61).2 ⟨ha,hb⟩).symm) (by rw [hs]; rfl)
   · exact fin 3 ⟨#[62,61]⟩ (by simp [sgs,List.findIdx?_cons,atS2,atS1,hm,ha,hb]) rfl (by omega) (by rw [hs]; exact ((cut_two hm 62 61).2 ⟨ha,hb⟩).symm) (by rw [hs]; rfl)
   · exact fin 4 ⟨#[38,38]⟩ (by simp [sgs,List.findIdx?_cons,atS2,atS1,hm,ha,hb]) rfl (by omega) (by rw [hs]; exact ((cut_two hm 38 38).2 ⟨ha,hb⟩).symm) (by rw [hs]; rfl)
   · exact fin 5 ⟨#[124,124]⟩ (by simp [sgs,List.findIdx?_cons,atS2,atS1,hm,ha,hb]) rfl (by omega) (by rw [hs]; exact ((cut_two hm 124 124).2 ⟨ha,hb⟩).symm) (by rw [hs]; rfl)
 · have n2:¬ (i+2≤s.size∧bt s i=61∧bt s (i+1)=61)∧¬ (i+2≤s.size∧bt s i=33∧bt s (i+1)=61)∧¬ (i+2≤s.size∧bt s i=60∧bt s (i+1)=61)∧¬ (i+2≤s.size∧bt s i=62∧bt s (i+1)=61)∧¬ (i+2≤s.size∧bt s i=38∧bt s (i+1)=38)∧¬ (i+2≤s.size∧bt s i=124∧bt s (i+1)=124):=by
     refine ⟨?_,?_,?_,?_,?_,?_⟩<;>rintro ⟨k1,k2,k3⟩<;>apply h2<;>simp [k1,k2,k3]
   obtain ⟨n1,n2,n3,n4,n5,n6⟩:=n2;by_cases h1:bt s i=43∨bt s i=45∨bt s i=42∨bt s i=47∨bt s i=37∨bt s i=40∨bt s i=41∨bt s i=63∨bt s i=58∨bt s i=33∨bt s i=60∨bt s i=62
   · have hs:signL s i=1:=by unfold signL; rw [if_neg h2,if_pos h1]
     rcases h1 with ha|ha|ha|ha|ha|ha|ha|ha|ha|ha|ha|ha
     · exact fin 6 ⟨#[43]⟩ (by
        rw [ha] at n1 n2 n3 n4 n5 n6;simp only [sgs,List.findIdx?_cons,atS2,atS1,ha];simp [hi1] at n1 n2 n3 n4 n5 n6 ⊢
        try (intros; omega)) rfl (by omega) (by rw [hs]; exact ((cut_one hi1 43).2 ha).symm) (by rw [hs]; rfl)
     · exact fin 7 ⟨#[45]⟩ (by
        rw [ha] at n1 n2 n3 n4 n5 n6;simp only [sgs,List.findIdx?_cons,atS2,atS1,ha];simp [hi1] at n1 n2 n3 n4 n5 n6 ⊢
        try (intros; omega)) rfl (by omega) (by rw [hs]; exact ((cut_one hi1 45).2 ha).symm) (by rw [hs]; rfl)
     · exact fin 8 ⟨#[42]⟩ (by
        rw [ha] at n1 n2 n3 n4 n5 n6;simp only [sgs,List.findIdx?_cons,atS2,atS1,ha];simp [hi1] at n1 n2 n3 n4 n5 n6 ⊢
        try (intros; omega)) rfl (by omega) (by rw [hs]; exact ((cut_one hi1 42).2 ha).symm) (by rw [hs]; rfl)
     · exact fin 9 ⟨#[47]⟩ (by
        rw [ha] at n1 n2 n3 n4 n5 n6;simp only [sgs,List.findIdx?_cons,atS2,atS1,ha];simp [hi1] at n1 n2 n3 n4 n5 n6 ⊢
        try (intros; omega)) rfl (by omega) (by rw [hs]; exact ((cut_one hi1 47).2 ha).symm) (by rw [hs]; rfl)
     · exact fin 10 ⟨#[37]⟩ (by
        rw [ha] at n1 n2 n3 n4 n5 n6;simp only [sgs,List.findIdx?_cons,atS2,atS1,ha];simp [hi1] at n1 n2 n3 n4 n5 n6 ⊢
        try (intros; omega)) rfl (by omega) (by rw [hs]; exact ((cut_one hi1 37).2 ha).symm) (by rw [hs]; rfl)
     · exact fin 11 ⟨#[40]⟩ (by
        rw [ha] at n1 n2 n3 n4 n5 n6;simp only [sgs,List.findIdx?_cons,atS2,atS1,ha];simp [hi1] at n1 n2 n3 n4 n5 n6 ⊢
        try (intros; omega)) rfl (by omega) (by rw [hs]; exact ((cut_one hi1 40).2 ha).symm) (by rw [hs]; rfl)
     · exact fin 12 ⟨#[41]⟩ (by
        rw [ha] at n1 n2 n3 n4 n5 n6;simp only [sgs,List.findIdx?_cons,atS2,atS1,ha];simp [hi1] at n1 n2 n3 n4 n5 n6 ⊢
        try (intros; omega)) rfl (by omega) (by rw [hs]; exact ((cut_one hi1 41).2 ha).symm) (by rw [hs]; rfl)
     · exact fin 13 ⟨#[63]⟩ (by
        rw [ha] at n1 n2 n3 n4 n5 n6;simp only [sgs,List.findIdx?_cons,atS2,atS1,ha];simp [hi1] at n1 n2 n3 n4 n5 n6 ⊢
        try (intros; omega)) rfl (by omega) (by rw [hs]; exact ((cut_one hi1 63).2 ha).symm) (by rw [hs]; rfl)
     · exact fin 14 ⟨#[58]⟩ (by
        rw [ha] at n1 n2 n3 n4 n5 n6;simp only [sgs,List.findIdx?_cons,atS2,atS1,ha];simp [hi1] at n1 n2 n3 n4 n5 n6 ⊢
        try (intros; omega)) rfl (by omega) (by rw [hs]; exact ((cut_one hi1 58).2 ha).symm) (by rw [hs]; rfl)
     · exact fin 15 ⟨#[33]⟩ (by
        rw [ha] at n1 n2 n3 n4 n5 n6;simp only [sgs,List.findIdx?_cons,atS2,atS1,ha];simp [hi1] at n1 n2 n3 n4 n5 n6 ⊢
        try (intros; omega)) rfl (by omega) (by rw [hs]; exact ((cut_one hi1 33).2 ha).symm) (by rw [hs]; rfl)
     · exact fin 16 ⟨#[60]⟩ (by
        rw [ha] at n1 n2 n3 n4 n5 n6;simp only [sgs,List.findIdx?_cons,atS2,atS1,ha];simp [hi1] at n1 n2 n3 n4 n5 n6 ⊢
        try (intros; omega)) rfl (by omega) (by rw [hs]; exact ((cut_one hi1 60).2 ha).symm) (by rw [hs]; rfl)
     · exact fin 17 ⟨#[62]⟩ (by
        rw [ha] at n1 n2 n3 n4 n5 n6;simp only [sgs,List.findIdx?_cons,atS2,atS1,ha];simp [hi1] at n1 n2 n3 n4 n5 n6 ⊢
        try (intros; omega)) rfl (by omega) (by rw [hs]; exact ((cut_one hi1 62).2 ha).symm) (by rw [hs]; rfl)
   · have hs:signL s i=0:=by unfold signL; rw [if_neg h2,if_neg h1]
     have:sgs.findIdx? (atS s i)=none:=by
       simp only [not_or] at h1;simp only [sgs,List.findIdx?_cons,atS2,atS1];simp [n1,n2,n3,n4,n5,n6,h1]
       try omega
     rw [this];exact hs
end Vai

namespace Vai
open Go
def dchr (n:Nat):UInt8:=UInt8.ofNat (48+n%10)
def dig (n:Nat):List UInt8:=if n<10 then [dchr n] else dig (n/10) ++ [dchr n]
def decL (x:Int):List UInt8:=if x<0 then 45::dig x.natAbs else dig x.natAbs
end Vai

namespace Vai
open Go
theorem nx_ascii {s:ByteArray}{i:Nat}(h:i<s.size)(hb:bt s i<128):nx s i=((bt s i:Int),1):=by
 unfold nx;rw [if_neg (by omega)]
 simp only;rw [if_pos hb]
theorem runTo_at {p:Nat→Bool}{s:ByteArray}{i j:Nat}(hij:i≤j)(hj:j≤s.size)(h:∀ k,i≤k→k<j→p (bt s k)=true)(hend:¬ (j<s.size∧p (bt s j)=true)):runTo p s i=j:=by
 fun_induction runTo p s i with
 | case1 i h1 ih =>
  rcases Nat.lt_or_ge i j with h2|h2
  · exact ih (by omega) fun k hk hk2=>h k (by omega) hk2
  · have:i=j:=by omega
    subst this;exact absurd h1 hend
 | case2 i h1 =>
  rcases Nat.lt_or_ge i j with h2|h2
  · exact absurd ⟨by omega,h i (by omega) h2⟩ h1
  · omega
theorem bt_list {l:List UInt8}{k:Nat}{b:UInt8}(h:l[k]?=some b):bt ⟨l.toArray⟩ k=b.toNat:=by
 simp only [bt,List.getElem?_toArray,h]
theorem size_list (l:List UInt8):(⟨l.toArray⟩:ByteArray).size=l.length:=by simp [ByteArray.size]
theorem bt_list_mem {l:List UInt8}{k:Nat}(h:k<l.length):∃ b∈l,bt ⟨l.toArray⟩ k=b.toNat∧l[k]?=some b :=
 ⟨l[k],List.getElem_mem h,bt_list (List.getElem?_eq_getElem h),List.getElem?_eq_getElem h⟩
theorem toks_over {s:ByteArray}{i:Nat}{l:List Tk}(h:s.size≤i):toks s i l = .ok l:=by
 have:=runTo_ge blankB s i;rw [toks,if_pos (by omega)]
end Vai

namespace Vai
open Go
def chs (s:ByteArray)(i:Nat):Bool :=
 if s.size≤i then true else if h:(nx s i).2=0∨charB (nx s i).1=false then false else chs s (i+(nx s i).2)
termination_by s.size-i
decreasing_by omega
theorem cont_lt {s:ByteArray}{i:Nat}(h:contB (bt s i)=true):i<s.size:=by
 apply Classical.byContradiction;intro hn;have:bt s i=0:=by
  unfold bt;rw [Array.getElem?_eq_none (by have:s.data.size=s.size:=rfl; omega)]
 rw [this] at h;simp [contB] at h
theorem cont_ge {c:Nat}(h:contB c=true):128≤c∧c<192:=by
 simp only [contB,beq_iff_eq] at h;omega
theorem nx_congr {s q:ByteArray}{i p:Nat}(hi:i<s.size)(hp:p<q.size)(h0:bt s i=bt q p)
   (h1:contB (bt s (i+1))=true∨contB (bt q (p+1))=true→bt s (i+1)=bt q (p+1))
   (h2:224≤bt s i→contB (bt s (i+1))=true→contB (bt s (i+2))=true∨contB (bt q (p+2))=true→bt s (i+2)=bt q (p+2))
   (h3:240≤bt s i→contB (bt s (i+1))=true→contB (bt s (i+2))=true→contB (bt s (i+3))=true∨contB (bt q (p+3))=true→bt s (i+3)=bt q (p+3)):nx s i=nx q p:=by
 have key:∀ (x:ByteArray) (k:Nat),(contB (bt x k)=true)→k<x.size:=fun x k h=>cont_lt h
 unfold nx;simp only [if_neg (show ¬ s.size≤i by omega),if_neg (show ¬ q.size≤p by omega)]
 rw [←h0];by_cases c1:bt s i<128
 · rw [if_pos c1,if_pos c1]
 rw [if_neg c1,if_neg c1];by_cases c2:bt s i<192
 · rw [if_pos c2,if_pos c2]
 rw [if_neg c2,if_neg c2];by_cases k1:contB (bt s (i+1))=true
 · have e1:=h1 (.inl k1)
   have k1':contB (bt q (p+1))=true:=by rw [←e1]; exact k1
   have z1:=key _ _ k1;have z1':=key _ _ k1';by_cases c3:bt s i<224
   · rw [if_pos c3,if_pos c3,←e1]
     have:i+2≤s.size↔p+2≤q.size:=by omega
     simp only [this]
   rw [if_neg c3,if_neg c3];by_cases k2:contB (bt s (i+2))=true
   · have e2:=h2 (by omega) k1 (.inl k2)
     have k2':contB (bt q (p+2))=true:=by rw [←e2]; exact k2
     have z2:=key _ _ k2;have z2':=key _ _ k2';by_cases c4:bt s i<240
     · rw [if_pos c4,if_pos c4,←e1,←e2]
       have:i+3≤s.size↔p+3≤q.size:=by omega
       simp only [this]
     rw [if_neg c4,if_neg c4];by_cases k3:contB (bt s (i+3))=true
     · have e3:=h3 (by omega) k1 k2 (.inl k3)
       have k3':contB (bt q (p+3))=true:=by rw [←e3]; exact k3
       have z3:=key _ _ k3;have z3':=key _ _ k3';rw [←e1,←e2,←e3];have:i+4≤s.size↔p+4≤q.size:=by omega
       simp only [this]
     · have k3':¬ contB (bt q (p+3))=true:=fun h=>k3 (by rw [h3 (by omega) k1 k2 (.inr h)]; exact h)
       simp only [k3,k3',false_and,and_false,if_false,Bool.false_eq_true]
   · have k2':¬ contB (bt q (p+2))=true:=fun h=>k2 (by rw [h2 (by omega) k1 (.inr h)]; exact h)
     simp only [k2,k2',false_and,and_false,if_false,Bool.false_eq_true]
 · have k1':¬ contB (bt q (p+1))=true:=fun h=>k1 (by rw [h1 (.inr h)]; exact h)
   simp only [k1,k1',false_and,and_false,if_false,Bool.false_eq_true]
theorem nx_conts {s:ByteArray}{i:Nat}:(nx s i).2≤4∧∀ k,1≤k→k<(nx s i).2→contB (bt s (i+k))=true:=by
 unfold nx;by_cases c0:s.size≤i
 · rw [if_pos c0]; exact ⟨by omega,fun k h1 h2=>by simp only at h2; omega⟩
 rw [if_neg c0];simp only;split
 · exact ⟨by omega,fun k h1 h2=>by simp only at h2; omega⟩
 split
 · exact ⟨by omega,fun k h1 h2=>by simp only at h2; omega⟩
 split
 · split
   · rename_i h
     refine ⟨by omega,fun k h1 h2=>?_⟩
     simp only at h2;obtain rfl:k=1:=by omega
     exact h.2.1
   · exact ⟨by omega,fun k h1 h2=>by simp only at h2; omega⟩
 split
 · split
   · rename_i h
     refine ⟨by omega,fun k h1 h2=>?_⟩
     simp only at h2;rcases (show k=1∨k=2 by omega) with rfl|rfl
     · exact h.2.1
     · exact h.2.2.1
   · exact ⟨by omega,fun k h1 h2=>by simp only at h2; omega⟩
 split
 · split
   · rename_i h
     refine ⟨by simp,fun k h1 h2=>?_⟩
     simp only at h2;rcases (show k=1∨k=2∨k=3 by omega) with rfl|rfl|rfl
     · exact h.2.1
     · exact h.2.2.1
     · exact h.2.2.2.1
   · exact ⟨by omega,fun k h1 h2=>by simp only at h2; omega⟩
 · exact ⟨by omega,fun k h1 h2=>by simp only at h2; omega⟩
theorem bt_drop (s:ByteArray)(i:Nat):bt s i=((s.data.toList.drop i).getD 0 0).toNat:=by
 rw [List.getD_eq_getElem?_getD,List.getElem?_drop,Nat.add_zero];unfold bt;simp only [Array.getElem?_toList];cases s.data[i]?<;>rfl
theorem drop_cons {α:Type}{l:List α}{i:Nat}{x:α}{r:List α}(h:l.drop i=x::r):i<l.length∧l.drop (i+1)=r:=by
 have h1:i<l.length:=by
  apply Classical.byContradiction;intro hn;rw [List.drop_of_length_le (by omega)] at h
  cases h
 rw [List.drop_eq_getElem_cons h1] at h;exact ⟨h1,(List.cons.inj h).2⟩
theorem len_bytes (s:ByteArray):s.data.toList.length=s.size:=by simp
def escB (b:UInt8):List UInt8:=if b=34∨b=92 then [92,b] else [b]
def esc (l:List UInt8):List UInt8:=l.flatMap escB
def Esc (s q:ByteArray)(R:List UInt8)(i p:Nat):Prop:=q.data.toList.drop p=esc (s.data.toList.drop i)++34::R
theorem cut_succ {s:ByteArray}{i n:Nat}{x:UInt8}(h:s.data.toList.drop i=x::s.data.toList.drop (i+1)):cut s i (i+(n+1))=x::cut s (i+1) (i+1+n):=by
 unfold cut;rw [h,show i+(n+1)-i=n+1 by omega,show i+1+n-(i+1)=n by omega,List.take_succ_cons]
theorem cut_zero (s:ByteArray)(i:Nat):cut s i (i+0)=[]:=by unfold cut; simp
end Vai

namespace Vai
open Go
theorem chs_step {s:ByteArray}{i:Nat}(hi:i<s.size):chs s i=if (nx s i).2=0∨charB (nx s i).1=false then false else chs s (i+(nx s i).2):=by
 rw [chs,if_neg (by omega)]
 split<;>rfl
theorem chs_over {s:ByteArray}{i:Nat}(hi:s.size≤i):chs s i=true:=by rw [chs,if_pos hi]
theorem bad_step {s:ByteArray}{i:Nat}(hi:i<s.size):bad s i=if (nx s i).2=0 then (i:Int) else bad s (i+(nx s i).2):=by
 rw [bad,if_neg (by omega)]
theorem txt_step {s:ByteArray}{fr i:Nat}{out:List UInt8}(hi:i<s.size)(h34:bt s i≠34)(h92:bt s i≠92):txt s fr i out=if charB (nx s i).1=true then txt s fr (i+(nx s i).2) (out++cut s i (i+(nx s i).2)) else .error (i,81):=by
 rw [txt,if_neg (by omega),if_neg h34,if_neg h92]
 split<;>rfl
theorem txt_back {s:ByteArray}{fr i:Nat}{out:List UInt8}(hi:i+1<s.size)(h92:bt s i=92)(h1:bt s (i+1)=34∨bt s (i+1)=92):txt s fr i out=txt s fr (i+2) (out++cut s (i+1) (i+2)):=by
 have hn:nx s (i+1)=((bt s (i+1):Int),1):=nx_ascii (by omega) (by omega)
 have hc:charB (nx s (i+1)).1=true:=by
  rw [hn];rcases h1 with h|h<;>rw [h]<;>decide
 rw [txt,if_neg (by omega),if_neg (by omega),if_pos h92,if_neg (by omega),if_neg (by omega),dif_pos hc,hn]
 rfl
theorem cut_one' {s:ByteArray}{i:Nat}{x:UInt8}{r:List UInt8}(h:s.data.toList.drop i=x::r):cut s i (i+1)=[x]:=by
 obtain ⟨_,h2⟩:=drop_cons h;have:=cut_succ (s:=s) (i:=i) (n:=0) (x:=x) (by rw [h,h2])
 rw [this,cut_zero]
theorem bt_head {s:ByteArray}{i:Nat}{x:UInt8}{r:List UInt8}(h:s.data.toList.drop i=x::r):i<s.size∧bt s i=x.toNat:=by
 obtain ⟨h1,_⟩:=drop_cons h;rw [len_bytes] at h1;exact ⟨h1,by rw [bt_drop,h]; rfl⟩
theorem drop_head {s:ByteArray}{i:Nat}(h:i<s.size):∃ x,s.data.toList.drop i=x::s.data.toList.drop (i+1):=by
 refine ⟨s.data.toList[i]'(by rw [len_bytes]; exact h),?_⟩
 exact List.drop_eq_getElem_cons (by rw [len_bytes]; exact h)
end Vai

namespace Vai
open Go
theorem size_ext {s:ByteArray}{a b:Nat}(h:b≤s.size):(s.extract a b).size=b-a:=by
 simp [ByteArray.size_extract]; omega
theorem bt_ext {s:ByteArray}{a b i:Nat}(hb:b≤s.size)(h:a+i<b):bt (s.extract a b) i=bt s (a+i):=by
 unfold bt;rw [ByteArray.data_extract,Array.getElem?_extract];have:i<min b s.data.size-a:=by have:s.data.size=s.size:=rfl; omega
 rw [if_pos this]
theorem bt_out {s:ByteArray}{i:Nat}(h:s.size≤i):bt s i=0:=by
 unfold bt;rw [Array.getElem?_eq_none (by have:s.data.size=s.size:=rfl; omega)]
theorem nx_need {s:ByteArray}{i:Nat}(h:(nx s i).2≠0):(128≤bt s i→2≤(nx s i).2)∧(224≤bt s i→3≤(nx s i).2)∧(240≤bt s i→4≤(nx s i).2):=by
 unfold nx at h ⊢;by_cases c0:s.size≤i
 · rw [if_pos c0] at h; exact absurd rfl h
 rw [if_neg c0] at h ⊢;simp only at h ⊢;by_cases c1:bt s i<128
 · rw [if_pos c1]; exact ⟨fun h=>by omega,fun h=>by omega,fun h=>by omega⟩
 rw [if_neg c1] at h ⊢;by_cases c2:bt s i<192
 · rw [if_pos c2] at h; exact absurd rfl h
 rw [if_neg c2] at h ⊢;by_cases c3:bt s i<224
 · rw [if_pos c3] at h ⊢
   split
   · exact ⟨fun h=>by omega,fun h=>by omega,fun h=>by omega⟩
   · rename_i hn; rw [if_neg hn] at h; exact absurd rfl h
 rw [if_neg c3] at h ⊢;by_cases c4:bt s i<240
 · rw [if_pos c4] at h ⊢
   split
   · exact ⟨fun h=>by omega,fun h=>by omega,fun h=>by omega⟩
   · rename_i hn; rw [if_neg hn] at h; exact absurd rfl h
 rw [if_neg c4] at h ⊢;by_cases c5:bt s i<248
 · rw [if_pos c5] at h ⊢
   split
   · exact ⟨fun h=>by simp,fun h=>by simp,fun h=>by simp⟩
   · rename_i hn; rw [if_neg hn] at h; exact absurd rfl h
 rw [if_neg c5] at h;exact absurd rfl h
theorem runTo_stops {P:Nat→Bool}{s:ByteArray}{i:Nat}(hi:i≤s.size):¬ (runTo P s i<s.size∧P (bt s (runTo P s i))=true):=by
 fun_induction runTo P s i with
 | case1 i h ih=>exact ih (by omega)
 | case2 i h=>exact h
section
variable {s:ByteArray}{p:Nat}(hp:p≤s.size)
include hp
theorem bt_pre {i:Nat}(h:i<p):bt (s.extract 0 p) i=bt s i:=by
 rw [bt_ext hp (by omega),Nat.zero_add]
theorem nx_pre {i:Nat}(h:i+(nx s i).2≤p)(h0:(nx s i).2≠0):nx (s.extract 0 p) i=nx s i:=by
 have hsz:=size_ext (a:=0) hp;obtain ⟨n2,n3,n4⟩:=nx_need h0;have hi:i<p:=by omega
 by_cases h128:bt s i<128
 · rw [nx_ascii (by omega) (by rw [bt_pre hp hi]; exact h128),nx_ascii (by omega) h128,bt_pre hp hi]
 have:=n2 (by omega)
 refine (nx_congr (by omega) (by omega) (bt_pre hp hi).symm (fun _=>(bt_pre hp (by omega)).symm) (fun h224 _ _=>?_) (fun h240 _ _ _=>?_)).symm
 · have:=n3 h224; exact (bt_pre hp (by omega)).symm
 · have:=n4 h240; exact (bt_pre hp (by omega)).symm
theorem cut_pre {i j:Nat}(hj:j≤p):cut (s.extract 0 p) i j=cut s i j:=by
 unfold cut;rw [show (s.extract 0 p).data.toList=s.data.toList.take p by have:=extract_bytes s 0 p; rwa [Nat.zero_add,List.drop_zero] at this]
 rw [List.drop_take,List.take_take];congr 1;omega
theorem ext_pre {i j:Nat}(hij:i≤j)(hj:j≤p):(s.extract 0 p).extract i j=s.extract i j:=by
 rw [extract_cut hij,extract_cut hij,cut_pre hp hj]
theorem runTo_pre {P:Nat→Bool}{i:Nat}(hi:i≤p)(h:runTo P s i≤p):runTo P (s.extract 0 p) i=runTo P s i:=by
 have hsz:=size_ext (a:=0) hp;have hge:=runTo_ge P s i;refine runTo_at hge (by omega) (fun k h1 h2=>?_) (fun ⟨h1,h2⟩=>?_)
 · rw [bt_pre hp (by omega)]; exact runTo_all k h1 h2
 · rw [bt_pre hp (by omega)] at h2
   exact runTo_stops (i:=i) (by omega) ⟨by omega,h2⟩
theorem signL_pre {i:Nat}(h:i+signL s i≤p)(h0:signL s i≠0):signL (s.extract 0 p) i=signL s i:=by
 have hsz:=size_ext (a:=0) hp;have hb0:bt (s.extract 0 p) i=bt s i:=bt_pre hp (by omega)
 unfold signL at h h0 ⊢;split at h
 · rename_i h2
   rw [if_pos h2,hb0,bt_pre hp (show i+1<p by omega),if_pos ⟨by omega,h2.2⟩]
 · rename_i h2
   rw [if_neg h2];rw [if_neg h2] at h0;rw [if_neg,hb0];rintro ⟨k1,k2⟩;rw [hb0,bt_pre hp (show i+1<p by omega)] at k2
   exact h2 ⟨by omega,k2⟩
theorem txt_pre {fr i:Nat}{out o:List UInt8}{e:Nat}(h:txt s fr i out = .ok (o,e))(he:e<p):txt (s.extract 0 p) fr i out = .ok (o,e):=by
 have hsz:=size_ext (a:=0) hp
 fun_induction txt s fr i out with
 | case1=>cases h
 | case2 i out h1 h2 =>
  cases h;rw [txt,if_neg (by omega),bt_pre hp he,if_pos h2]
 | case3=>cases h
 | case4=>cases h
 | case5 i out h1 h2 h3 h4 h5 hc ih =>
  have hgt:=txt_gt h;have hnc:=nx_char hc;have h5':bt s (i+1)=34∨bt s (i+1)=92:=by omega
  have hn1:(nx s (i+1)).2=1:=by rw [nx_ascii (by omega) (by omega)]
  have b0:=bt_pre hp (show i<p by omega)
  have b1:=bt_pre hp (show i+1<p by omega)
  rw [txt_back (by omega) (by rw [b0]; exact h3) (by rw [b1]; exact h5')]
  rw [hn1] at ih h;rw [cut_pre hp (by omega)]
  exact ih h
 | case6=>cases h
 | case7 i out h1 h2 h3 hc ih =>
  have hgt:=txt_gt h;have hnc:=nx_char hc;have hnx:=nx_pre hp (i:=i) (by omega) (by omega)
  have b0:=bt_pre hp (show i<p by omega)
  rw [txt_step (by omega) (by rw [b0]; exact h2) (by rw [b0]; exact h3),hnx,if_pos hc,cut_pre hp (by omega)]
  exact ih h
 | case8=>cases h
theorem tok1_pre {i j:Nat}{t:Tk}(h:tok1 s i = .ok (t,j))(hj:j≤p)(hi:i<p):tok1 (s.extract 0 p) i = .ok (t,j):=by
 have b0:=bt_pre hp hi;have hgt:=tok1_gt (by omega) h
 unfold tok1 at h ⊢;rw [b0];by_cases c1:digitB (bt s i)=true
 · rw [if_pos c1] at h ⊢
   cases hn:numS (cut s i (runTo digitB s i)) with
   | none=>rw [hn] at h; cases h
   | some n =>
    rw [hn] at h;cases h;rw [runTo_pre hp (by omega) hj,cut_pre hp hj,hn]
 rw [if_neg c1] at h ⊢;by_cases c2:letterB (bt s i)=true
 · rw [if_pos c2] at h ⊢
   cases h;rw [runTo_pre hp (by omega) hj,ext_pre hp (runTo_ge _ _ _) hj]
 rw [if_neg c2] at h ⊢;by_cases c3:bt s i=34
 · rw [if_pos c3] at h ⊢
   cases ht:txt s i (i+1) [] with
   | error f=>rw [ht] at h; cases h
   | ok oe =>
    obtain ⟨o,e⟩:=oe;rw [ht] at h;simp only at h;by_cases h64:64<o.length
    · rw [if_pos h64] at h; cases h
    · rw [if_neg h64] at h
      cases h;rw [txt_pre hp ht (by omega)]
      simp only;rw [if_neg h64]
 rw [if_neg c3] at h ⊢;by_cases c4:signL s i=0
 · rw [if_pos c4] at h; cases h
 · rw [if_neg c4] at h
   cases h;rw [signL_pre hp hj c4,if_neg c4,ext_pre hp (by omega) hj]
end
def Tk.back (p:Nat)(t:Tk):Tk:={ t with pos:=t.pos-p }
section
variable {s:ByteArray}{p:Nat}(hp:p≤s.size)
include hp
theorem bt_suf {i:Nat}:bt (s.extract p s.size) i=bt s (p+i):=by
 by_cases h:p+i<s.size
 · exact bt_ext (Nat.le_refl _) h
 · rw [bt_out (by rw [size_ext (Nat.le_refl _)]; omega),bt_out (by omega)]
theorem nx_suf {i:Nat}:nx (s.extract p s.size) i=nx s (p+i):=by
 have hsz:=size_ext (s:=s) (a:=p) (Nat.le_refl _);by_cases h:p+i<s.size
 · refine nx_congr (by omega) h (bt_suf hp) (fun _=>by rw [bt_suf hp]; rfl) (fun _ _ _=>by rw [bt_suf hp]; rfl) (fun _ _ _ _=>by rw [bt_suf hp]; rfl)
 · unfold nx
   rw [if_pos (by omega),if_pos (by omega)]
theorem cut_suf {i j:Nat}:cut (s.extract p s.size) i j=cut s (p+i) (p+j):=by
 unfold cut;rw [show (s.extract p s.size).data.toList=s.data.toList.drop p by
  have:=extract_bytes s p (s.size-p);rw [show p+(s.size-p)=s.size by omega] at this
  rw [this];exact List.take_of_length_le (by simp)]
 rw [List.drop_drop,show p+j-(p+i)=j-i by omega]
theorem ext_suf {i j:Nat}(h:i≤j):(s.extract p s.size).extract i j=s.extract (p+i) (p+j):=by
 rw [extract_cut (s:=s.extract p s.size) h,extract_cut (s:=s) (i:=p+i) (j:=p+j) (by omega),cut_suf hp]
theorem runTo_suf {P:Nat→Bool}{i:Nat}:p+runTo P (s.extract p s.size) i=runTo P s (p+i):=by
 have hsz:=size_ext (s:=s) (a:=p) (Nat.le_refl _)
 fun_induction runTo P (s.extract p s.size) i with
 | case1 i h ih =>
  rw [bt_suf hp] at h;rw [ih,←runTo_step (p:=P) (s:=s) (i:=p+i) (by omega) h.2]
  rfl
 | case2 i h =>
  rw [bt_suf hp] at h;exact (runTo_stop (fun hh=>h ⟨by omega,hh.2⟩)).symm
theorem signL_suf {i:Nat}:signL (s.extract p s.size) i=signL s (p+i):=by
 have hsz:=size_ext (s:=s) (a:=p) (Nat.le_refl _);unfold signL;rw [bt_suf hp,bt_suf hp,←Nat.add_assoc];have:i+2≤(s.extract p s.size).size↔p+i+2≤s.size:=by omega
 simp only [this]
theorem txt_suf {fr i:Nat}{out o:List UInt8}{e:Nat}(h:txt s (p+fr) (p+i) out = .ok (o,e)):∃ e',e=p+e'∧txt (s.extract p s.size) fr i out = .ok (o,e'):=by
 have hsz:=size_ext (s:=s) (a:=p) (Nat.le_refl _);generalize hk:p+i=k at h;generalize hf:p+fr=f at h
 fun_induction txt s f k out generalizing i with
 | case1=>cases h
 | case2 k out h1 h2 =>
  cases h;subst hk;refine ⟨i,rfl,?_⟩;rw [txt,if_neg (by omega),bt_suf hp,if_pos h2]
 | case3=>cases h
 | case4=>cases h
 | case5 k out h1 h2 h3 h4 h5 hc ih =>
  subst hk;have h5':bt s (p+i+1)=34∨bt s (p+i+1)=92:=by omega
  have hn1:(nx s (p+i+1)).2=1:=by rw [nx_ascii (by omega) (by omega)]
  rw [hn1] at h ih;rw [txt_back (by omega) (by rw [bt_suf hp]; exact h3) (by rw [bt_suf hp]; exact h5'),cut_suf hp]
  exact ih (i:=i+2) (by omega) h
 | case6=>cases h
 | case7 k out h1 h2 h3 hc ih =>
  subst hk;have hnx:=nx_suf hp (i:=i);rw [txt_step (by omega) (by rw [bt_suf hp]; exact h2) (by rw [bt_suf hp]; exact h3),hnx,if_pos hc,cut_suf hp,←Nat.add_assoc]
  exact ih (i:=i+(nx s (p+i)).2) (by omega) h
 | case8=>cases h
theorem tok1_suf {i j:Nat}{t:Tk}(h:tok1 s (p+i) = .ok (t,j))(hi:p+i<s.size):∃ j',j=p+j'∧tok1 (s.extract p s.size) i = .ok (t.back p,j'):=by
 have hb:=bt_suf hp (i:=i);unfold tok1 at h ⊢;rw [hb];by_cases c1:digitB (bt s (p+i))=true
 · rw [if_pos c1] at h ⊢
   rw [←runTo_suf hp,←cut_suf hp] at h
   cases hn:numS (cut (s.extract p s.size) i (runTo digitB (s.extract p s.size) i)) with
   | none=>rw [hn] at h; cases h
   | some n =>
    rw [hn] at h;cases h;refine ⟨_,rfl,?_⟩;simp only [Tk.back,Except.ok.injEq,Prod.mk.injEq,Tk.mk.injEq,true_and,and_true];omega
 rw [if_neg c1] at h ⊢;by_cases c2:letterB (bt s (p+i))=true
 · rw [if_pos c2] at h ⊢
   rw [←runTo_suf hp,←ext_suf hp (runTo_ge _ _ _)] at h;cases h;refine ⟨_,rfl,?_⟩;simp only [Tk.back,Except.ok.injEq,Prod.mk.injEq,Tk.mk.injEq,true_and,and_true];omega
 rw [if_neg c2] at h ⊢;by_cases c3:bt s (p+i)=34
 · rw [if_pos c3] at h ⊢
   cases ht:txt s (p+i) (p+i+1) [] with
   | error f=>rw [ht] at h; cases h
   | ok oe =>
    obtain ⟨o,e⟩:=oe;rw [ht] at h;obtain ⟨e',rfl,ht'⟩:=txt_suf hp (fr:=i) (i:=i+1) ht;simp only at h;by_cases h64:64<o.length
    · rw [if_pos h64] at h; cases h
    · rw [if_neg h64] at h
      cases h;refine ⟨e'+1,by omega,?_⟩
      rw [ht'];simp only;rw [if_neg h64];simp only [Tk.back,Except.ok.injEq,Prod.mk.injEq,Tk.mk.injEq,true_and,and_true];omega
 rw [if_neg c3] at h ⊢;rw [signL_suf hp];by_cases c4:signL s (p+i)=0
 · rw [if_pos c4] at h; cases h
 · rw [if_neg c4] at h ⊢
   cases h;refine ⟨i+signL s (p+i),by omega,?_⟩
   rw [ext_suf hp (by omega),Nat.add_assoc]
   simp only [Tk.back,Except.ok.injEq,Prod.mk.injEq,Tk.mk.injEq,true_and,and_true];omega
end
end Vai
