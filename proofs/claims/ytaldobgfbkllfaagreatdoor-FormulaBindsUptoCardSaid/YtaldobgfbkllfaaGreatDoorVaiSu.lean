import Derived.Test.YtaldobgfbkllfaaGreatDoorVaiSt
import Derived.Test.YtaldobgfbkllfaaGreatDoorVaiSp
set_option linter.unusedSimpArgs false
set_option linter.unusedVariables false
set_option linter.unusedSectionVars false
namespace Go.Proofs.YtaldobgfbkllfaaGreatDoor
open Vai P0
set_option maxHeartbeats 0
set_option maxRecDepth 100000
class GlS extends GlY where
 g0:Gl.tree 0=some sgnT
variable [GlS]
theorem c28 {c:FuncId}{k:Nat}(h:H)(hm:md c 28 = .keep):callD (cx.at c) (call cx prim) 28 [.t (.int .i64 k)] h=some (.t (.str (kb k)),h):=by
 refine keepT cb28 hm ?_;rw [call_run (cx:=cx) rfl Tryz.func28 ok28 nd28 rfl (lbe rfl) rfl rfl];unfold kb;by_cases hk:10<k
 · have e:ltI 10 (k:Int)=true:=ltI_true (by omega)
   simp -implicitDefEqProofs (disch:=omega) [e,hk]
 · have e:ltI 10 (k:Int)=false:=ltI_false (by omega)
   simp -implicitDefEqProofs (disch:=omega) [e,hk]
def dsT:T:=.slice [.agg [.str ⟨#[105]⟩,.int .i64 1],.agg [.str ⟨#[116]⟩,.int .i64 2]]
theorem dsT_ok:Slice dsT (dsB.map decT):=.inr rfl
def bndT:List T:=[iv 1,iv 1,iv 1,iv 2,iv 2,iv 3,iv 3,iv 3,iv 3,iv 3,iv 3,iv 4,iv 5]
theorem bnd_at {x:Nat}(h:x<13):bndT[x]?=some (iv (lev x)):=by
 rcases k13 h with rfl|rfl|rfl|rfl|rfl|rfl|rfl|rfl|rfl|rfl|rfl|rfl|rfl<;>rfl
theorem sg_size {x:Nat}:(sgB x).size≤2:=by
 unfold sgB;by_cases h:x<13
 · rcases k13 h with rfl|rfl|rfl|rfl|rfl|rfl|rfl|rfl|rfl|rfl|rfl|rfl|rfl<;>decide
 · rw [List.getD_eq_getElem?_getD,List.getElem?_eq_none (by simp [sgn]; omega)]; decide
theorem kb_size {x:Nat}:(kb x).size=1:=by unfold kb; split<;>rfl
theorem sgAt_B (x:Nat):sgnAt x=sgB x:=rfl
theorem zs1:(⟨#[32]⟩:ByteArray).size=1:=rfl
theorem zs2:(⟨#[105,32]⟩:ByteArray).size=2:=rfl
theorem zs3:(⟨#[32,105,32]⟩:ByteArray).size=3:=rfl
theorem zs4:(⟨#[32,105]⟩:ByteArray).size=2:=rfl
theorem le63' {n:Nat}(h:n≤1000000):(n≤9223372036854775807)=True:=eq_true (by omega)
theorem law10 (h24:∀ h,callD (cx.at 10) (call cx prim) 24 [] h=some (.t (.bool true),h)){a b:Int}(ha:0≤a∧a≤255)(hb:0≤b∧b≤255):∃ h',call cx prim 10 [.t (.int .u8 a),.t (.int .u8 b)] .empty=some (.t (.bool true),h'):=by
 obtain ⟨x,hx,hx13⟩:∃ x:Nat,a.tmod 13=x∧x<13:=⟨(a%13).toNat,by rw [Int.tmod_eq_emod_of_nonneg ha.1]; omega,by omega⟩
 obtain ⟨y,hy,hy13⟩:∃ y:Nat,b.tmod 13=y∧y<13:=⟨(b%13).toNat,by rw [Int.tmod_eq_emod_of_nonneg hb.1]; omega,by omega⟩
 have hch:=chk_at hx13 hy13;have lx:=bnd_at hx13;have ly:=bnd_at hy13;have i1:=fun h=>ix0 hx13 h
 have i2:=fun h=>ix0 hy13 h
 have l1:=fun h=>ld0 hx13 h
 have l2:=fun h=>ld0 hy13 h
 have t0:Gl.tree 0=some sgnT:=GlS.g0;have k1:=fun h=>c28 (c:=10) (k:=x) h rfl
 have k2:=fun h=>c28 (c:=10) (k:=y) h rfl
 have s1:=sg_size (x:=x);have s2:=sg_size (x:=y);have s3:=kb_size (x:=x);have s4:=kb_size (x:=y);simp only [bndT] at lx ly;have lp1:∀ h z,loadD Tryz.prog h 57 (.eptr (prP z) 0)=some (.t (prP z)):=fun h z=>by simp
 have lp2:∀ h z,loadD Tryz.prog h 3 (.eptr (prP z) 0)=some (.t (iv z.k)):=fun h z=>by simp
 have ld3:∀ h (n:Int),loadD Tryz.prog h 3 (.eptr (iv n) 0)=some (.t (iv n)):=fun h n=>by simp
 rw [call_run (cx:=cx) rfl Tryz.func10 ok10 nd10 rfl (lbe rfl) rfl rfl];unfold chkB at hch;simp only [sgAt_B] at l1 l2;by_cases h33:lev x=3∧lev y=3
 · rw [if_pos h33] at hch
   cases hp:parF (tx0 x y) dsB with
   | none=>rw [hp] at hch; cases hch
   | some P =>
    obtain ⟨ps,p,w⟩:=P;rw [hp] at hch;simp only [decide_eq_true_eq] at hch;subst hch;have hz:(tx0 x y).size≤1000000000:=by simp only [tx0,ByteArray.size_append,zs2,zs3,zs4]; omega
    obtain ⟨X,hX,q20⟩:=c20f (c:=10) hz dsT_ok (by decide) hp rfl
    simp only [tx0,dsT] at q20;have e1:((lev x:Nat):Int)=3:=by omega
    have e2:((lev y:Nat):Int)=3:=by omega
    rw [e1] at lx;rw [e2] at ly;generalize sgnT=ST at *;simp -implicitDefEqProofs (disch:=omega) [-load_eptr,-getElem?_pos,hx,hy,h24,t0,i1,i2,l1,l2,le63',ByteArray.size_append,zs1,zs2,zs3,zs4,q20,buildSliceD,litSliceD,List.replicate,eqI,md,lx,ly,ld3]
 · rw [if_neg h33] at hch
   cases hp:parF (txF x y) dsB with
   | none=>rw [hp] at hch; cases hch
   | some P =>
    obtain ⟨ps,p,w⟩:=P;rw [hp] at hch;simp only at hch;have hz:(txF x y).size≤1000000000:=by
      simp only [txF,txB,ByteArray.size_append,zs1];split<;>omega
    obtain ⟨X,hX,q20⟩:=c20f (c:=10) hz dsT_ok (by decide) hp rfl
    simp only [txF,txB,dsT] at q20;have hXl:=fun hh=>hX.len (P:=Tryz.prog) (t:=22) tk22 hh
    rw [List.length_map] at hXl;have h3:¬ (((lev x:Nat):Int)=3∧((lev y:Nat):Int)=3):=by omega
    generalize sgnT=ST at *;by_cases hw:w=0
    · subst hw
      simp only [if_true] at hch;rcases ps with _|⟨a1,_|⟨a2,_|⟨a3,_|⟨a4,_|⟨a5,_|⟨a6,l⟩⟩⟩⟩⟩⟩
      · cases hch
      · cases hch
      · cases hch
      · cases hch
      · cases hch
      · obtain rfl:=hX.eq_of_ne (by simp)
        simp only at hch;by_cases hle:lev x≤lev y
        · rw [if_pos hle] at hch q20
          simp only [Bool.and_eq_true,decide_eq_true_eq] at hch;obtain ⟨⟨g1,g2⟩,g3⟩:=hch
          cases hg:[a1,a2,a3,a4,a5][a5.a.toNat]? with
          | none=>rw [hg] at g2; cases g2
          | some z =>
           rw [hg] at g2;simp only [decide_eq_true_eq] at g2;have hgz:([a1,a2,a3,a4,a5].map prP)[a5.a.toNat]?=some (prP z):=by rw [List.getElem?_map,hg]; rfl
           simp only [List.map_cons,List.map_nil] at hgz;have hg4:([prP a1,prP a2,prP a3,prP a4,prP a5]:List T)[(4:Nat)]?=some (prP a5):=rfl;have g4:¬ (a5.a<0):=by omega
           have hle1:((lev x:Nat):Int)≤lev y:=by omega
           by_cases hx3:lev x=3
           · have hy3:¬ (((lev y:Nat):Int)=3):=fun h=>h33 ⟨hx3,by omega⟩
             rw [hx3] at lx;have hle3:(3:Int)≤lev y:=by omega
             simp -implicitDefEqProofs (disch:=omega) [-load_eptr,-getElem?_pos,hx,hy,h24,t0,i1,i2,l1,l2,k1,k2,le63',ByteArray.size_append,zs1,s1,s2,s3,s4,q20,buildSliceD,litSliceD,List.replicate,eqI,leI,md,lx,ly,ld3,hy3,hle3,hgz,hg4,g1,g2,g3,lp1,lp2]
           · have hx3':¬ (((lev x:Nat):Int)=3):=by omega
             simp -implicitDefEqProofs (disch:=omega) [-load_eptr,-getElem?_pos,hx,hy,h24,t0,i1,i2,l1,l2,k1,k2,le63',ByteArray.size_append,zs1,s1,s2,s3,s4,q20,buildSliceD,litSliceD,List.replicate,eqI,leI,md,lx,ly,ld3,hx3',hle1,hgz,hg4,g1,g2,g3,lp1,lp2]
        · rw [if_neg hle] at hch q20
          simp only [Bool.and_eq_true,decide_eq_true_eq] at hch;obtain ⟨⟨g1,g2⟩,g3⟩:=hch
          cases hg:[a1,a2,a3,a4,a5][a5.b.toNat]? with
          | none=>rw [hg] at g2; cases g2
          | some z =>
           rw [hg] at g2;simp only [decide_eq_true_eq] at g2;have hgz:([a1,a2,a3,a4,a5].map prP)[a5.b.toNat]?=some (prP z):=by rw [List.getElem?_map,hg]; rfl
           simp only [List.map_cons,List.map_nil] at hgz;have hg4:([prP a1,prP a2,prP a3,prP a4,prP a5]:List T)[(4:Nat)]?=some (prP a5):=rfl;have hle1:¬ (((lev x:Nat):Int)≤lev y):=by omega
           by_cases hx3:lev x=3
           · have hy3:¬ (((lev y:Nat):Int)=3):=fun h=>h33 ⟨hx3,by omega⟩
             rw [hx3] at lx;have hle3:¬ ((3:Int)≤lev y):=by omega
             simp -implicitDefEqProofs (disch:=omega) [-load_eptr,-getElem?_pos,hx,hy,h24,t0,i1,i2,l1,l2,k1,k2,le63',ByteArray.size_append,zs1,s1,s2,s3,s4,q20,buildSliceD,litSliceD,List.replicate,eqI,leI,md,lx,ly,ld3,hy3,hle3,hgz,hg4,g1,g2,g3,lp1,lp2]
           · have hx3':¬ (((lev x:Nat):Int)=3):=by omega
             simp -implicitDefEqProofs (disch:=omega) [-load_eptr,-getElem?_pos,hx,hy,h24,t0,i1,i2,l1,l2,k1,k2,le63',ByteArray.size_append,zs1,s1,s2,s3,s4,q20,buildSliceD,litSliceD,List.replicate,eqI,leI,md,lx,ly,ld3,hx3',hle1,hgz,hg4,g1,g2,g3,lp1,lp2]
      · cases hch
    · rw [if_neg hw] at hch
      simp only [Bool.and_eq_true,decide_eq_true_eq] at hch;obtain ⟨rfl,hps⟩:=hch;rw [List.isEmpty_iff] at hps;subst hps;simp only [List.length_nil] at hXl;by_cases hle:lev x≤lev y
      · rw [if_pos hle] at q20
        have hle1:((lev x:Nat):Int)≤lev y:=by omega
        by_cases hx3:lev x=3
        · have hy3:¬ (((lev y:Nat):Int)=3):=fun h=>h33 ⟨hx3,by omega⟩
          rw [hx3] at lx;have hle3:(3:Int)≤lev y:=by omega
          simp -implicitDefEqProofs (disch:=omega) [-load_eptr,-getElem?_pos,hx,hy,h24,t0,i1,i2,l1,l2,k1,k2,le63',ByteArray.size_append,zs1,s1,s2,s3,s4,q20,buildSliceD,litSliceD,List.replicate,eqI,leI,md,lx,ly,ld3,hy3,hle3,hXl]
        · have hx3':¬ (((lev x:Nat):Int)=3):=by omega
          simp -implicitDefEqProofs (disch:=omega) [-load_eptr,-getElem?_pos,hx,hy,h24,t0,i1,i2,l1,l2,k1,k2,le63',ByteArray.size_append,zs1,s1,s2,s3,s4,q20,buildSliceD,litSliceD,List.replicate,eqI,leI,md,lx,ly,ld3,hx3',hle1,hXl]
      · rw [if_neg hle] at q20
        have hle1:¬ (((lev x:Nat):Int)≤lev y):=by omega
        by_cases hx3:lev x=3
        · have hy3:¬ (((lev y:Nat):Int)=3):=fun h=>h33 ⟨hx3,by omega⟩
          rw [hx3] at lx;have hle3:¬ ((3:Int)≤lev y):=by omega
          simp -implicitDefEqProofs (disch:=omega) [-load_eptr,-getElem?_pos,hx,hy,h24,t0,i1,i2,l1,l2,k1,k2,le63',ByteArray.size_append,zs1,s1,s2,s3,s4,q20,buildSliceD,litSliceD,List.replicate,eqI,leI,md,lx,ly,ld3,hy3,hle3,hXl]
        · have hx3':¬ (((lev x:Nat):Int)=3):=by omega
          simp -implicitDefEqProofs (disch:=omega) [-load_eptr,-getElem?_pos,hx,hy,h24,t0,i1,i2,l1,l2,k1,k2,le63',ByteArray.size_append,zs1,s1,s2,s3,s4,q20,buildSliceD,litSliceD,List.replicate,eqI,leI,md,lx,ly,ld3,hx3',hle1,hXl]
end Go.Proofs.YtaldobgfbkllfaaGreatDoor

namespace Go.Proofs.YtaldobgfbkllfaaGreatDoor
open Vai
open Go.ChangeShapes Go.WideShapes Go.ChangeAt Go.RowKit
set_option maxRecDepth 100000
theorem glob0:Tryz.prog.globalNamed "pavane/pavaneref13.Signs" = some 0:=by kernel_rfl
theorem cells_of_strs {H:Type}{enc:TypeId × Value→H}{P:Program}{w:World}{base:Nat}{sp:Nat→Bool}{held:Bool}{fuel:Nat}{t e:TypeId}{n:Nat}{cs:List Value}{zs:List ByteArray}{p:List MemPlace}
  (ht:P.underlying t=some (.array n e)) (he:P.underlying e=some .string) (hce:P.cellsOf e=1) (hct:P.cellsOf t=n)
  (h:DataW.trod enc P w base sp held fuel t cs=some (.agg (zs.map fun z=>.lit (.string z.data.toList)),p)):cs=zs.map fun z=>Value.string z:=by
 cases fuel with
 | zero=>simp [DataW.trod] at h
 | succ fuel =>
  simp only [DataW.trod,ht,hce,hct,Nat.mul_one] at h;split at h
  · rename_i hl
    obtain ⟨xs,hm,hx⟩:=Option.map_eq_some_iff.1 h;have hxs:xs.map (·.1)=zs.map fun z=>(DataW.lit (.string z.data.toList):DataW H):=by simpa using congrArg Prod.fst hx
    have hxl:xs.length=n:=by simpa using Lib.mapM_length hm
    have hzl:zs.length=n:=by have:=congrArg List.length hxs; simp at this; omega
    refine List.ext_getElem? fun i=>?_
    by_cases hi:i<n
    · obtain ⟨b,hb,hf⟩:=Lib.mapM_at hm i i (by simp [hi])
      obtain ⟨z,hc,rfl,_⟩:=DataW.trod_string he hf;have h1:cs[i]?=some (.string z):=by
       have:=congrArg (fun l:List Value=>l[0]?) hc
       simpa [List.getElem?_take,List.getElem?_drop] using this
      have h2:(xs.map (·.1))[i]?=some (DataW.lit (.string z.data.toList):DataW H):=by simp [hb]
      rw [hxs] at h2;simp only [List.getElem?_map,Option.map_eq_some_iff,DataW.lit.injEq,Lit.string.injEq] at h2;obtain ⟨z',hz',hzz⟩:=h2;have:z'=z:=by cases z; cases z'; simp at hzz; rw [hzz]
      rw [h1,List.getElem?_map,hz',this]; rfl
    · rw [List.getElem?_eq_none (by omega),List.getElem?_eq_none (by simp; omega)]
  · cases h
def sgnOK (w:World):Prop:=∀ j,j<13→w.cell? ⟨0,j,none⟩=some (.string (sgnAt j))
def levOK (w:World):Prop:=∀ j,j<13→w.cell? ⟨1,j,none⟩=some (.int .i64 (lev j))
theorem sgn_cells {j:Nat}{c:T}(h:sgnT.cells[j]?=some c):j<13∧scalarT (.string (sgnAt j))=some c:=by
 have hj:j<13:=by
  rcases Nat.lt_or_ge j 13 with h1|h1
  · exact h1
  · have:sgnT.cells.length=13:=by decide
    rw [List.getElem?_eq_none (by omega)] at h; cases h
 refine ⟨hj,?_⟩;rw [←h];rcases k13 hj with rfl|rfl|rfl|rfl|rfl|rfl|rfl|rfl|rfl|rfl|rfl|rfl|rfl<;>rfl
theorem lev_cells {j:Nat}{c:T}(h:levT.cells[j]?=some c):j<13∧scalarT (.int .i64 (lev j))=some c:=by
 have hj:j<13:=by
  rcases Nat.lt_or_ge j 13 with h1|h1
  · exact h1
  · have:levT.cells.length=13:=by decide
    rw [List.getElem?_eq_none (by omega)] at h; cases h
 refine ⟨hj,?_⟩;rw [←h];rcases k13 hj with rfl|rfl|rfl|rfl|rfl|rfl|rfl|rfl|rfl|rfl|rfl|rfl|rfl<;>rfl
@[reducible] def gl1:GlP where
 blk k:=k=4∨k=5∨k=3∨k=0∨k=1
 ok w:=((errOK w 4∧errOK w 5)∧Lib.TabIs Tryz.prog w "internal/strconv.uint64pow10" .u64 Lib.pow10Tab)∧sgnOK w∧levOK w
 stay w w' h ho:=by
  refine ⟨⟨⟨ho.1.1.1.elim fun ev he=>⟨ev,?_,he.2⟩,ho.1.1.2.elim fun ev he=>⟨ev,?_,he.2⟩⟩,tab_stay (h 3 (.inr (.inr (.inl rfl)))) ho.1.2⟩,fun j hj=>?_,fun j hj=>?_⟩
  · rw [World.cell?_of_block (h 4 (.inl rfl))]; exact he.1
  · rw [World.cell?_of_block (h 5 (.inr (.inl rfl)))]; exact he.1
  · rw [World.cell?_of_block (h 0 (.inr (.inr (.inr (.inl rfl)))))]; exact ho.2.1 j hj
  · rw [World.cell?_of_block (h 1 (.inr (.inr (.inr (.inr rfl)))))]; exact ho.2.2 j hj
 tree g:=if g=0 then some sgnT else if g=1 then some levT else none
 trees w g x ho h:=by
  by_cases h0:g=0
  · rw [if_pos h0] at h; cases h; subst h0
    refine ⟨.inr (.inr (.inr (.inl rfl))),by decide,fun j c hc=>?_⟩
    obtain ⟨hj,hs⟩:=sgn_cells hc;exact ⟨_,ho.2.1 j hj,hs⟩
  rw [if_neg h0] at h;by_cases h1:g=1
  · rw [if_pos h1] at h; cases h; subst h1
    refine ⟨.inr (.inr (.inr (.inr rfl))),by decide,fun j c hc=>?_⟩
    obtain ⟨hj,hs⟩:=lev_cells hc;exact ⟨_,ho.2.2 j hj,hs⟩
  rw [if_neg h1] at h; cases h
 base _ h:=h.1
 g0:=rfl
 g1:=rfl
noncomputable def laidWorld1 (os:Os):World :=
 let put (h:Array Obj) (g:Nat) (cs:Array Value):Array Obj:=h.modify g fun
  | .cells _ t frozen=>.cells cs t frozen
  | o=>o
 let w0:=laidWorld os
 let h1:=put w0.heap 0 #[.string ⟨#[42]⟩,.string ⟨#[47]⟩,.string ⟨#[37]⟩,.string ⟨#[43]⟩,.string ⟨#[45]⟩,.string ⟨#[61,61]⟩,.string ⟨#[33,61]⟩,.string ⟨#[60]⟩,.string ⟨#[60,61]⟩,.string ⟨#[62]⟩,.string ⟨#[62,61]⟩,.string ⟨#[38,38]⟩,.string ⟨#[124,124]⟩]
 let h2:=put h1 1 #[.int .i64 1,.int .i64 1,.int .i64 1,.int .i64 2,.int .i64 2,.int .i64 3,.int .i64 3,.int .i64 3,.int .i64 3,.int .i64 3,.int .i64 3,.int .i64 4,.int .i64 5]
 { w0 with heap:=h2 }
end Go.Proofs.YtaldobgfbkllfaaGreatDoor

namespace Go.Proofs.YtaldobgfbkllfaaGreatDoor
open Vai
open Go.ChangeShapes Go.WideShapes Go.ChangeAt Go.RowKit
set_option maxRecDepth 100000
@[reducible] def gl2:GlS where
 blk k:=k=4∨k=5∨k=3∨k=0
 ok w:=((errOK w 4∧errOK w 5)∧Lib.TabIs Tryz.prog w "internal/strconv.uint64pow10" .u64 Lib.pow10Tab)∧sgnOK w
 stay w w' h ho:=by
  refine ⟨⟨⟨ho.1.1.1.elim fun ev he=>⟨ev,?_,he.2⟩,ho.1.1.2.elim fun ev he=>⟨ev,?_,he.2⟩⟩,tab_stay (h 3 (.inr (.inr (.inl rfl)))) ho.1.2⟩,fun j hj=>?_⟩
  · rw [World.cell?_of_block (h 4 (.inl rfl))]; exact he.1
  · rw [World.cell?_of_block (h 5 (.inr (.inl rfl)))]; exact he.1
  · rw [World.cell?_of_block (h 0 (.inr (.inr (.inr rfl))))]; exact ho.2 j hj
 tree g:=if g=0 then some sgnT else none
 trees w g x ho h:=by
  by_cases h0:g=0
  · rw [if_pos h0] at h; cases h; subst h0
    refine ⟨.inr (.inr (.inr rfl)),by decide,fun j c hc=>?_⟩
    obtain ⟨hj,hs⟩:=sgn_cells hc;exact ⟨_,ho.2 j hj,hs⟩
  rw [if_neg h0] at h; cases h
 base _ h:=h.1
 g0:=rfl
theorem laid_glob2 {W:World}(h:laidMetH Tryz.prog Rows.formulaBindsUptoRow.laid W):gl2.ok W∧∀ k,gl2.blk k→k<W.heap.size:=by
 have hL:laidMet Tryz.prog Rows.formulaBindsUptoRow.laid W:=h;have h3:=hL.tail.tail.tail.tail;obtain ⟨a1,t1,hv1,_⟩:=laid_sentinel (g:=5) h3 (by kernel_rfl) (by kernel_rfl) Tryz.underlying181 rowE Tryz.underlying264 Tryz.underlying266 rfl rfl Tryz.underlying9 (by kernel_rfl) (by kernel_rfl)
 obtain ⟨a0,t0,hv0,_⟩:=laid_sentinel (g:=4) h3.tail (by kernel_rfl) (by kernel_rfl) Tryz.underlying181 rowE Tryz.underlying264 Tryz.underlying266 rfl rfl Tryz.underlying9 (by kernel_rfl) (by kernel_rfl)
 have c1:=World.var?_cell (g:=5) (by kernel_rfl) hv1 0
 have c0:=World.var?_cell (g:=4) (by kernel_rfl) hv0 0
 have ht:Lib.TabIs Tryz.prog W "internal/strconv.uint64pow10" .u64 Lib.pow10Tab:=Lib.tabIs_of_head (g:=3) (t:=225) (e:=170) (n:=20) glob3 (by kernel_rfl) Tryz.underlying225 Tryz.underlying170 (by kernel_rfl) (by kernel_rfl) hL.tail.tail
 have c3:=ht.cell glob3 0 (by decide)
 have hsgn:sgnOK W:=by
   obtain ⟨ps,⟨g',t',cs,fuel,p,q,hg',ht',hvar,hd,_,_⟩,_⟩:=hL.tail.tail.tail;obtain rfl:=Option.some.inj (glob0.symm.trans hg');have htt:(Tryz.prog.globals[0]?).map (·.type)=some 61:=by kernel_rfl
   obtain rfl:=Option.some.inj (htt.symm.trans ht');have hcs:=cells_of_strs (zs:=sgn) (n:=13) (e:=9) Tryz.underlying61 Tryz.underlying9 (by kernel_rfl) (by kernel_rfl) hd
   intro j hj;have hc:=World.var?_cell glob0 hvar j;rw [hc,←Array.getElem?_toList,hcs];rcases k13 hj with rfl|rfl|rfl|rfl|rfl|rfl|rfl|rfl|rfl|rfl|rfl|rfl|rfl<;>rfl
 refine ⟨⟨⟨⟨⟨_,c0,.inr ⟨_,_,rfl⟩⟩,⟨_,c1,.inr ⟨_,_,rfl⟩⟩⟩,ht⟩,hsgn⟩,?_⟩;rintro k (rfl|rfl|rfl|rfl)
 · exact cell_ok c0
 · exact cell_ok c1
 · exact cell_ok c3
 · exact cell_ok (hsgn 0 (by decide))
theorem laid_met2 (os:Os)(args:Array Value):laidMet Tryz.prog Rows.formulaBindsUptoRow.laid ((laidWorld1 os).forCall (fun _ _=>0) ⟨#[],args,[]⟩).memory :=
 (LaidIn.of_run [6,7,3,0,5,N0+1,4,N0] 8 (by kernel_rfl) (by kernel_rfl) (by kernel_rfl) (by kernel_rfl)).met
end Go.Proofs.YtaldobgfbkllfaaGreatDoor
