import Derived.Test.YtaldobgfbkllfaaGreatDoorVaiSn
set_option linter.unusedSimpArgs false
set_option linter.unusedVariables false
set_option linter.unusedSectionVars false
namespace Go.Proofs.YtaldobgfbkllfaaGreatDoor.P0
open Vai
variable [Gl]
set_option maxHeartbeats 0
set_option maxRecDepth 100000
theorem H41_b (h:H)(x:PT)(fo:FuncId)(ko:Nat):(H41 h x fo ko).objs (h.next+1)=some (.row 90 1 [.func (.func fo) [] [.ptr ko 0 0 1]]):=by simp [H.push,upd]
theorem H41_p (h:H)(x:PT)(fo:FuncId)(ko:Nat):(H41 h x fo ko).objs h.next=some (.row 57 9 [.t (prP x)]):=by simp [H.push,upd]
theorem s41_3 {x:PT}{y:T}{fo:FuncId}{ko:Nat}{h:H}{K:Int→Int}(hk:x.k=3)(hmk:h.marks=[])
  (hA:callD (cx.at 77) (call cx prim0) fo [.t (iv x.a),.ptr ko 0 0 1] (H41 h x fo ko)=some (.t (iv (K x.a)),H41 h x fo ko)) :
  call cx prim0 41 [.t (prP x),.t y,.func (.func fo) [] [.ptr ko 0 0 1]] h=some (.t (iv (if eqI (K x.a) 1 then 1 else 0)),H41 h x fo ko):=by
 rw [call_run (cx:=cx) rfl Tryz.func41 ok41 nd41 rfl (lbe rfl) rfl rfl];have q2:=fun b k h=>c79 (c:=41) b k h rfl
 have qa:=k77 (K:=K) (H41_b h x fo ko) (H41_p h x fo ko) hA;generalize K x.a=A at qa ⊢;obtain ⟨k,a,b,c,vk,vn,s,nm,at_⟩:=x;simp only at hk;subst hk;cases e0:eqI A 1 <;>
 simp -implicitDefEqProofs (disch:=omega) [q2,qa,e0,md,hmk]
theorem s41_4 {x:PT}{y:T}{fo:FuncId}{ko:Nat}{h:H}{K:Int→Int}(hk:x.k=4)(hmk:h.marks=[])
  (hA:callD (cx.at 77) (call cx prim0) fo [.t (iv x.a),.ptr ko 0 0 1] (H41 h x fo ko)=some (.t (iv (K x.a)),H41 h x fo ko)) :
  call cx prim0 41 [.t (prP x),.t y,.func (.func fo) [] [.ptr ko 0 0 1]] h=some (.t (iv (if eqI (K x.a) 2 then 2 else 0)),H41 h x fo ko):=by
 rw [call_run (cx:=cx) rfl Tryz.func41 ok41 nd41 rfl (lbe rfl) rfl rfl];have q2:=fun b k h=>c79 (c:=41) b k h rfl
 have qa:=k77 (K:=K) (H41_b h x fo ko) (H41_p h x fo ko) hA;generalize K x.a=A at qa ⊢;obtain ⟨k,a,b,c,vk,vn,s,nm,at_⟩:=x;simp only at hk;subst hk;cases e0:eqI A 2 <;>
 simp -implicitDefEqProofs (disch:=omega) [q2,qa,e0,md,hmk]
theorem s41_5 {x:PT}{y:T}{fo:FuncId}{ko:Nat}{h:H}{K:Int→Int}(hk:x.k=5)(hmk:h.marks=[])
  (hA:callD (cx.at 77) (call cx prim0) fo [.t (iv x.a),.ptr ko 0 0 1] (H41 h x fo ko)=some (.t (iv (K x.a)),H41 h x fo ko)) :
  call cx prim0 41 [.t (prP x),.t y,.func (.func fo) [] [.ptr ko 0 0 1]] h=some (.t (iv (if eqI (K x.a) 3 then 1 else 0)),H41 h x fo ko):=by
 rw [call_run (cx:=cx) rfl Tryz.func41 ok41 nd41 rfl (lbe rfl) rfl rfl];have q2:=fun b k h=>c79 (c:=41) b k h rfl
 have qa:=k77 (K:=K) (H41_b h x fo ko) (H41_p h x fo ko) hA;generalize K x.a=A at qa ⊢;obtain ⟨k,a,b,c,vk,vn,s,nm,at_⟩:=x;simp only at hk;subst hk;cases e0:eqI A 3 <;>
 simp -implicitDefEqProofs (disch:=omega) [q2,qa,e0,md,hmk]
theorem s41_6 {x:PT}{y:T}{fo:FuncId}{ko:Nat}{h:H}{K:Int→Int}(hk:x.k=6∨x.k=7∨x.k=8∨x.k=10)(hmk:h.marks=[])
  (hA:callD (cx.at 77) (call cx prim0) fo [.t (iv x.a),.ptr ko 0 0 1] (H41 h x fo ko)=some (.t (iv (K x.a)),H41 h x fo ko))
  (hB:callD (cx.at 78) (call cx prim0) fo [.t (iv x.b),.ptr ko 0 0 1] (H41 h x fo ko)=some (.t (iv (K x.b)),H41 h x fo ko)) :
  call cx prim0 41 [.t (prP x),.t y,.func (.func fo) [] [.ptr ko 0 0 1]] h=some (.t (iv (if eqI (K x.a) 1&&eqI (K x.b) 1 then 1 else 0)),H41 h x fo ko):=by
 rw [call_run (cx:=cx) rfl Tryz.func41 ok41 nd41 rfl (lbe rfl) rfl rfl];have q2:=fun b k h=>c79 (c:=41) b k h rfl
 have qa:=k77 (K:=K) (H41_b h x fo ko) (H41_p h x fo ko) hA;have qb:=k78 (K:=K) (H41_b h x fo ko) (H41_p h x fo ko) hB;generalize K x.a=A at qa ⊢;generalize K x.b=B at qb ⊢;obtain ⟨k,a,b,c,vk,vn,s,nm,at_⟩:=x;simp only at hk;rcases hk with rfl|rfl|rfl|rfl<;>cases e0:eqI A 1<;>cases e1:eqI B 1 <;>
 simp -implicitDefEqProofs (disch:=omega) [q2,qa,qb,e0,e1,md,hmk]
theorem s41_9 {x:PT}{y:T}{fo:FuncId}{ko:Nat}{h:H}{K:Int→Int}(hk:x.k=9)(hmk:h.marks=[])
  (hA:callD (cx.at 77) (call cx prim0) fo [.t (iv x.a),.ptr ko 0 0 1] (H41 h x fo ko)=some (.t (iv (K x.a)),H41 h x fo ko))
  (hB:callD (cx.at 78) (call cx prim0) fo [.t (iv x.b),.ptr ko 0 0 1] (H41 h x fo ko)=some (.t (iv (K x.b)),H41 h x fo ko)) :
  call cx prim0 41 [.t (prP x),.t y,.func (.func fo) [] [.ptr ko 0 0 1]] h=some (.t (iv (if eqI (K x.a) (K x.b) && !eqI (K x.a) 2 then K x.a else 0)),H41 h x fo ko):=by
 rw [call_run (cx:=cx) rfl Tryz.func41 ok41 nd41 rfl (lbe rfl) rfl rfl];have q2:=fun b k h=>c79 (c:=41) b k h rfl
 have qa:=k77 (K:=K) (H41_b h x fo ko) (H41_p h x fo ko) hA;have qb:=k78 (K:=K) (H41_b h x fo ko) (H41_p h x fo ko) hB;generalize K x.a=A at qa ⊢;generalize K x.b=B at qb ⊢;obtain ⟨k,a,b,c,vk,vn,s,nm,at_⟩:=x;simp only at hk;subst hk;cases e0:eqI A B<;>cases e1:eqI A 2 <;>
 simp -implicitDefEqProofs (disch:=omega) [q2,qa,qb,e0,e1,md,hmk]
theorem s41_11 {x:PT}{y:T}{fo:FuncId}{ko:Nat}{h:H}{K:Int→Int}(hk:x.k=11∨x.k=12)(hmk:h.marks=[])
  (hA:callD (cx.at 77) (call cx prim0) fo [.t (iv x.a),.ptr ko 0 0 1] (H41 h x fo ko)=some (.t (iv (K x.a)),H41 h x fo ko))
  (hB:callD (cx.at 78) (call cx prim0) fo [.t (iv x.b),.ptr ko 0 0 1] (H41 h x fo ko)=some (.t (iv (K x.b)),H41 h x fo ko)) :
  call cx prim0 41 [.t (prP x),.t y,.func (.func fo) [] [.ptr ko 0 0 1]] h=some (.t (iv (if eqI (K x.a) (K x.b) then 2 else 0)),H41 h x fo ko):=by
 rw [call_run (cx:=cx) rfl Tryz.func41 ok41 nd41 rfl (lbe rfl) rfl rfl];have q2:=fun b k h=>c79 (c:=41) b k h rfl
 have qa:=k77 (K:=K) (H41_b h x fo ko) (H41_p h x fo ko) hA;have qb:=k78 (K:=K) (H41_b h x fo ko) (H41_p h x fo ko) hB;generalize K x.a=A at qa ⊢;generalize K x.b=B at qb ⊢;obtain ⟨k,a,b,c,vk,vn,s,nm,at_⟩:=x;simp only at hk;rcases hk with rfl|rfl<;>cases e0:eqI A B <;>
 simp -implicitDefEqProofs (disch:=omega) [q2,qa,qb,e0,md,hmk]
theorem s41_13 {x:PT}{y:T}{fo:FuncId}{ko:Nat}{h:H}{K:Int→Int}(hk:x.k=13∨x.k=14∨x.k=15∨x.k=16)(hmk:h.marks=[])
  (hA:callD (cx.at 77) (call cx prim0) fo [.t (iv x.a),.ptr ko 0 0 1] (H41 h x fo ko)=some (.t (iv (K x.a)),H41 h x fo ko))
  (hB:callD (cx.at 78) (call cx prim0) fo [.t (iv x.b),.ptr ko 0 0 1] (H41 h x fo ko)=some (.t (iv (K x.b)),H41 h x fo ko)) :
  call cx prim0 41 [.t (prP x),.t y,.func (.func fo) [] [.ptr ko 0 0 1]] h=some (.t (iv (if eqI (K x.a) (K x.b) && !eqI (K x.a) 2 then 2 else 0)),H41 h x fo ko):=by
 rw [call_run (cx:=cx) rfl Tryz.func41 ok41 nd41 rfl (lbe rfl) rfl rfl];have q2:=fun b k h=>c79 (c:=41) b k h rfl
 have qa:=k77 (K:=K) (H41_b h x fo ko) (H41_p h x fo ko) hA;have qb:=k78 (K:=K) (H41_b h x fo ko) (H41_p h x fo ko) hB;generalize K x.a=A at qa ⊢;generalize K x.b=B at qb ⊢;obtain ⟨k,a,b,c,vk,vn,s,nm,at_⟩:=x;simp only at hk;rcases hk with rfl|rfl|rfl|rfl<;>cases e0:eqI A B<;>cases e1:eqI A 2 <;>
 simp -implicitDefEqProofs (disch:=omega) [q2,qa,qb,e0,e1,md,hmk]
theorem s41_17 {x:PT}{y:T}{fo:FuncId}{ko:Nat}{h:H}{K:Int→Int}(hk:x.k=17∨x.k=18)(hmk:h.marks=[])
  (hA:callD (cx.at 77) (call cx prim0) fo [.t (iv x.a),.ptr ko 0 0 1] (H41 h x fo ko)=some (.t (iv (K x.a)),H41 h x fo ko))
  (hB:callD (cx.at 78) (call cx prim0) fo [.t (iv x.b),.ptr ko 0 0 1] (H41 h x fo ko)=some (.t (iv (K x.b)),H41 h x fo ko)) :
  call cx prim0 41 [.t (prP x),.t y,.func (.func fo) [] [.ptr ko 0 0 1]] h=some (.t (iv (if eqI (K x.a) 2&&eqI (K x.b) 2 then 2 else 0)),H41 h x fo ko):=by
 rw [call_run (cx:=cx) rfl Tryz.func41 ok41 nd41 rfl (lbe rfl) rfl rfl];have q2:=fun b k h=>c79 (c:=41) b k h rfl
 have qa:=k77 (K:=K) (H41_b h x fo ko) (H41_p h x fo ko) hA;have qb:=k78 (K:=K) (H41_b h x fo ko) (H41_p h x fo ko) hB;generalize K x.a=A at qa ⊢;generalize K x.b=B at qb ⊢;obtain ⟨k,a,b,c,vk,vn,s,nm,at_⟩:=x;simp only at hk;rcases hk with rfl|rfl<;>cases e0:eqI A 2<;>cases e1:eqI B 2 <;>
 simp -implicitDefEqProofs (disch:=omega) [q2,qa,qb,e0,e1,md,hmk]
theorem s41_19 {x:PT}{y:T}{fo:FuncId}{ko:Nat}{h:H}{K:Int→Int}(hk:x.k=19)(hmk:h.marks=[])
  (hA:callD (cx.at 77) (call cx prim0) fo [.t (iv x.a),.ptr ko 0 0 1] (H41 h x fo ko)=some (.t (iv (K x.a)),H41 h x fo ko))
  (hB:callD (cx.at 78) (call cx prim0) fo [.t (iv x.b),.ptr ko 0 0 1] (H41 h x fo ko)=some (.t (iv (K x.b)),H41 h x fo ko))
  (hC:callD (cx.at 41) (call cx prim0) fo [.t (iv x.c),.ptr ko 0 0 1] (H41 h x fo ko)=some (.t (iv (K x.c)),H41 h x fo ko)) :
  call cx prim0 41 [.t (prP x),.t y,.func (.func fo) [] [.ptr ko 0 0 1]] h=some (.t (iv (if eqI (K x.a) 2&&eqI (K x.b) (K x.c) then K x.b else 0)),H41 h x fo ko):=by
 rw [call_run (cx:=cx) rfl Tryz.func41 ok41 nd41 rfl (lbe rfl) rfl rfl];have q2:=fun b k h=>c79 (c:=41) b k h rfl
 have qa:=k77 (K:=K) (H41_b h x fo ko) (H41_p h x fo ko) hA;have qb:=k78 (K:=K) (H41_b h x fo ko) (H41_p h x fo ko) hB;generalize K x.a=A at qa ⊢;generalize K x.b=B at qb ⊢;generalize K x.c=C at hC ⊢;obtain ⟨k,a,b,c,vk,vn,s,nm,at_⟩:=x;simp only at hk;subst hk;cases e0:eqI A 2<;>cases e1:eqI B C <;>
 simp -implicitDefEqProofs (disch:=omega) [q2,qa,qb,hC,e0,e1,md,hmk,D.beq,D.beq.beqs]
theorem s41_2 {x:PT}{y:T}{ds:List DV}(hy:Slice y (ds.map decT))(hl:ds.length≤2000000){fo:FuncId}{ko:Nat}{h:H}(hk:x.k=2)(hmk:h.marks=[]) :
   call cx prim0 41 [.t (prP x),.t y,.func (.func fo) [] [.ptr ko 0 0 1]] h=some (.t (iv (kind3 (declK ds x.nm))),H41 h x fo ko):=by
 rw [call_run (cx:=cx) rfl Tryz.func41 ok41 nd41 rfl (lbe rfl) rfl rfl];have q1:=fun h=>c80 (c:=41) (nm:=x.nm) hy hl h rfl
 have q2:=fun b k h=>c79 (c:=41) b k h rfl
 obtain ⟨k,a,b,c,vk,vn,s,nm,at_⟩:=x;simp only at hk q1 ⊢;subst hk;generalize declK ds nm=D at q1 ⊢;unfold kind3;by_cases h1:1≤D
 · by_cases h2:D≤3
   · rw [if_pos ⟨h1,h2⟩]
     simp -implicitDefEqProofs (disch:=omega) [q1,q2,md,hmk]
   · rw [if_neg (by omega)]
     simp -implicitDefEqProofs (disch:=omega) [q1,q2,md,hmk]
 · rw [if_neg (by omega)]
   simp -implicitDefEqProofs (disch:=omega) [q1,q2,md,hmk]
theorem s41_0 {x:PT}{y:T}{fo:FuncId}{ko:Nat}{h:H}(hk:x.k<1∨19<x.k)(hmk:h.marks=[]) :
  call cx prim0 41 [.t (prP x),.t y,.func (.func fo) [] [.ptr ko 0 0 1]] h=some (.t (iv 0),H41 h x fo ko):=by
 rw [call_run (cx:=cx) rfl Tryz.func41 ok41 nd41 rfl (lbe rfl) rfl rfl];simp -implicitDefEqProofs (disch:=omega) [md,hmk]
end Go.Proofs.YtaldobgfbkllfaaGreatDoor.P0

namespace Go.Proofs.YtaldobgfbkllfaaGreatDoor
open Vai
theorem uses_k {x:PT}:(3≤x.k→x.k≤19→x.a∈usesS x)∧(6≤x.k→x.k≤19→x.b∈usesS x)∧(x.k=19→x.c∈usesS x):=by
 unfold usesS;refine ⟨fun h1 h2=>?_,fun h1 h2=>?_,fun h=>?_⟩
 · split
   · simp
   · split
     · simp
     · rw [if_pos (by omega)]; simp
 · split
   · simp
   · rw [if_pos (by omega)]; simp
 · rw [if_pos h]; simp
end Go.Proofs.YtaldobgfbkllfaaGreatDoor
namespace Go.Proofs.YtaldobgfbkllfaaGreatDoor.P0
open Vai
variable [Gl]
set_option maxHeartbeats 0
set_option maxRecDepth 100000
theorem s41 {x:PT}{y:T}{ds:List DV}(hy:Slice y (ds.map decT))(hl:ds.length≤2000000){fo:FuncId}{ko:Nat}{h:H}{K:Int→Int}(hmk:h.marks=[])(hs:x.s.size≤1000000000)
   (hK:∀ j∈usesS x,1≤K j∧K j≤3)
   (hof:∀ j∈usesS x,∀ c:FuncId,c=77∨c=78∨c=41→callD (cx.at c) (call cx prim0) fo [.t (iv j),.ptr ko 0 0 1] (H41 h x fo ko)=some (.t (iv (K j)),H41 h x fo ko)) :
   call cx prim0 41 [.t (prP x),.t y,.func (.func fo) [] [.ptr ko 0 0 1]] h=some (.t (iv (kdS x ds K)),H41 h x fo ko):=by
 obtain ⟨ua,ub,uc⟩:=uses_k (x:=x);unfold kdS;by_cases e1:x.k=1
 · rw [if_pos e1]; exact s41_1 e1 hmk hs
 rw [if_neg e1];by_cases e2:x.k=2
 · rw [if_pos e2]; exact s41_2 hy hl e2 hmk
 rw [if_neg e2];by_cases e3:x.k=3
 · rw [if_pos e3]
   have:=s41_3 (y:=y) (K:=K) e3 hmk (hof _ (ua (by omega) (by omega)) 77 (.inl rfl))
   simpa only [eqI,decide_eq_true_eq] using this
 rw [if_neg e3];by_cases e4:x.k=4
 · rw [if_pos e4]
   have:=s41_4 (y:=y) (K:=K) e4 hmk (hof _ (ua (by omega) (by omega)) 77 (.inl rfl))
   simpa only [eqI,decide_eq_true_eq] using this
 rw [if_neg e4];by_cases e5:x.k=5
 · rw [if_pos e5]
   have:=s41_5 (y:=y) (K:=K) e5 hmk (hof _ (ua (by omega) (by omega)) 77 (.inl rfl))
   simpa only [eqI,decide_eq_true_eq] using this
 rw [if_neg e5];by_cases e6:x.k=6∨x.k=7∨x.k=8∨x.k=10
 · rw [if_pos e6]
   have:=s41_6 (y:=y) (K:=K) e6 hmk (hof _ (ua (by omega) (by omega)) 77 (.inl rfl)) (hof _ (ub (by omega) (by omega)) 78 (.inr (.inl rfl)))
   rw [this];congr 4;simp [eqI]
 rw [if_neg e6];by_cases e9:x.k=9
 · rw [if_pos e9]
   have h1:=hK _ (ua (by omega) (by omega))
   have:=s41_9 (y:=y) (K:=K) e9 hmk (hof _ (ua (by omega) (by omega)) 77 (.inl rfl)) (hof _ (ub (by omega) (by omega)) 78 (.inr (.inl rfl)))
   rw [this];congr 4;by_cases h2:K x.a=K x.b<;>by_cases h3:K x.a=2<;>simp [eqI,h2,h3]<;>omega
 rw [if_neg e9];by_cases e11:x.k=11∨x.k=12
 · rw [if_pos e11]
   have h1:=hK _ (ua (by omega) (by omega))
   have:=s41_11 (y:=y) (K:=K) e11 hmk (hof _ (ua (by omega) (by omega)) 77 (.inl rfl)) (hof _ (ub (by omega) (by omega)) 78 (.inr (.inl rfl)))
   rw [this];congr 4;by_cases h2:K x.a=K x.b
   · rw [if_pos (eqI_true h2),if_pos ⟨h2,by omega⟩]
   · rw [if_neg (by simp [eqI,h2]),if_neg (fun h=>h2 h.1)]
 rw [if_neg e11];by_cases e13:x.k=13∨x.k=14∨x.k=15∨x.k=16
 · rw [if_pos e13]
   have h1:=hK _ (ua (by omega) (by omega))
   have:=s41_13 (y:=y) (K:=K) e13 hmk (hof _ (ua (by omega) (by omega)) 77 (.inl rfl)) (hof _ (ub (by omega) (by omega)) 78 (.inr (.inl rfl)))
   rw [this];congr 4;by_cases h2:K x.a=K x.b<;>by_cases h3:K x.a=2<;>simp [eqI,h2,h3]<;>omega
 rw [if_neg e13];by_cases e17:x.k=17∨x.k=18
 · rw [if_pos e17]
   have:=s41_17 (y:=y) (K:=K) e17 hmk (hof _ (ua (by omega) (by omega)) 77 (.inl rfl)) (hof _ (ub (by omega) (by omega)) 78 (.inr (.inl rfl)))
   rw [this];congr 4;simp [eqI]
 rw [if_neg e17];by_cases e19:x.k=19
 · rw [if_pos e19]
   have:=s41_19 (y:=y) (K:=K) e19 hmk (hof _ (ua (by omega) (by omega)) 77 (.inl rfl)) (hof _ (ub (by omega) (by omega)) 78 (.inr (.inl rfl))) (hof _ (uc e19) 41 (.inr (.inr rfl)))
   rw [this];congr 4;simp [eqI]
 rw [if_neg e19];exact s41_0 (by omega) hmk
theorem c47 {c:FuncId}(x:PT)(h:H)(hm:md c 47 = .pure):∃ y,Slice y ((usesS x).map iv)∧callD (cx.at c) (call cx prim0) 47 [.t (prP x)] h=some (.t y,h):=by
 have:∃ h' y,call cx prim0 47 [.t (prP x)] .empty=some (.t y,h')∧Slice y ((usesS x).map iv):=by
  rw [call_run (cx:=cx) rfl Tryz.func47 ok47 nd47 rfl (lbe rfl) rfl rfl];unfold usesS;by_cases e1:x.k=19
  · simp -implicitDefEqProofs (disch:=omega) [e1,litSliceD]
    exact ⟨_,_,⟨rfl,rfl⟩,.mk⟩
  by_cases e2:6≤x.k∧x.k≤18
  · simp -implicitDefEqProofs (disch:=omega) [e1,e2,litSliceD]
    exact ⟨_,_,⟨rfl,rfl⟩,.mk⟩
  by_cases e3:3≤x.k∧x.k≤5
  · have h6:¬ 6≤x.k:=by omega
    simp -implicitDefEqProofs (disch:=omega) [e1,h6,e3,litSliceD];exact ⟨_,_,⟨rfl,rfl⟩,.mk⟩
  by_cases e4:x.k<3
  · have h6:¬ 6≤x.k:=by omega
    simp -implicitDefEqProofs (disch:=omega) [e1,h6,e3,e4,e2];exact ⟨_,_,⟨rfl,rfl⟩,.nil⟩
  · have h6:6≤x.k:=by omega
    have h7:¬ x.k≤18:=by omega
    have h8:3≤x.k:=by omega
    have h9:¬ x.k≤5:=by omega
    simp -implicitDefEqProofs (disch:=omega) [e1,h6,e3,e4,e2,h7,h8,h9];exact ⟨_,_,⟨rfl,rfl⟩,.nil⟩
 obtain ⟨h',y,q,hy⟩:=this;exact ⟨y,hy,pureT cb47 hm q rfl rfl⟩
end Go.Proofs.YtaldobgfbkllfaaGreatDoor.P0

namespace Go.Proofs.YtaldobgfbkllfaaGreatDoor
open Vai
def getK (l:List Int)(j:Int):Int:=(l[j.toNat]?).getD 0
def kindsL (ps:List PT)(ds:List DV):Nat→List Int
 | 0=>[]
 | i+1=>kindsL ps ds i ++ [match ps[i]? with|some x=>kdS x ds (getK (kindsL ps ds i))|none=>0]
theorem kindsL_len (ps:List PT)(ds:List DV):∀ i,(kindsL ps ds i).length=i
 | 0=>rfl
 | i+1=>by simp [kindsL,kindsL_len ps ds i]
def sidesB (x:PT)(i:Nat):Bool:=(usesS x).all fun j=>decide (0≤j∧j<i)
def goodK (ps:List PT)(ds:List DV):Nat→Bool
 | 0=>true
 | i+1=>goodK ps ds i&&match ps[i]? with|some x=>sidesB x i && !decide (kdS x ds (getK (kindsL ps ds i))=0)|none=>false
theorem goodK_mono {ps : List PT} {ds : List DV} : ∀ {n i : Nat}, i ≤ n → goodK ps ds i = false → goodK ps ds n = false
  | 0, i, h, hf => by obtain rfl : i = 0 := by omega
                      exact hf
  | n + 1, i, h, hf => by
    by_cases e : i = n + 1
    · subst e; exact hf
    · simp only [goodK, goodK_mono (n := n) (i := i) (by omega) hf, Bool.false_and]
def bump (u:List Int)(j:Int):List Int:=u.set j.toNat (getK u j+1)
def usedL (ps:List PT):Nat→List Int
 | 0=>List.replicate ps.length 0
 | i+1=>match ps[i]? with|some x=>(usesS x).foldl bump (usedL ps i)|none=>usedL ps i
theorem bump_len (u:List Int)(j:Int):(bump u j).length=u.length:=by simp [bump]
theorem bumps_len:∀ (js:List Int) (u:List Int),(js.foldl bump u).length=u.length
 | [],u=>rfl
 | j::js,u=>by rw [List.foldl_cons,bumps_len js,bump_len]
theorem usedL_len (ps:List PT):∀ i,(usedL ps i).length=ps.length
 | 0=>by simp [usedL]
 | i+1=>by
  unfold usedL;split
  · rw [bumps_len,usedL_len ps i]
  · exact usedL_len ps i
def onesB (l:List Int):Bool:=l.all fun n=>decide (n=1)
def kindS (ps:List PT)(ds:List DV):Int :=
 if ps.length=0∨256<ps.length then 0
 else if goodK ps ds ps.length=false then 0
 else if onesB ((usedL ps ps.length).take (ps.length-1))=false then 0
 else getK (kindsL ps ds ps.length) ((ps.length:Int)-1)
def padK (l:List Int)(n:Nat):List Int:=l++List.replicate (n-l.length) 0
theorem padK_len {l:List Int}{n:Nat}(h:l.length≤n):(padK l n).length=n:=by simp [padK]; omega
theorem padK_get {l:List Int}{n:Nat}{j:Int}(h0:0≤j)(h:j<l.length):getK (padK l n) j=getK l j:=by
 unfold getK padK;rw [List.getElem?_append_left (by omega)]
theorem padK_set {l:List Int}{n:Nat}{v:Int}(h:l.length<n):(padK l n).set l.length v=padK (l ++ [v]) n:=by
 unfold padK;rw [List.set_append_right _ _ (Nat.le_refl _),Nat.sub_self];have:n-l.length=(n-(l ++ [v]).length)+1:=by simp; omega
 rw [this,List.replicate_succ,List.set_cons_zero,List.append_assoc];rfl
theorem getK_some {l:List Int}{j:Int}(h0:0≤j)(h:j<l.length):l[j.toNat]?=some (getK l j):=by
 unfold getK;rw [List.getElem?_eq_getElem (by omega)]
 rfl
end Go.Proofs.YtaldobgfbkllfaaGreatDoor
namespace Go.Proofs.YtaldobgfbkllfaaGreatDoor.P0
open Vai
variable [Gl]
set_option maxHeartbeats 0
set_option maxRecDepth 100000
structure KH (a b c:Nat) (ks us:List Int) (h:H):Prop where
 oa:h.objs a=some (.row 3 1 ((ks.map iv).map .t))
 ob:h.objs b=some (.row 3 1 ((us.map iv).map .t))
 oc:h.objs c=some (.row 60 1 [.row a 0 ks.length ks.length])
 ab:a≠b
 ac:a≠c
 bc:b≠c
 la:a<h.next
 lb:b<h.next
 lc:c<h.next
 hm:h.marks=[]
theorem KH.keeps {a b c:Nat}{ks us:List Int}{h h':H}(k:KH a b c ks us h)(kp:Keeps h h'):KH a b c ks us h' where
 oa:=kp.obj k.oa k.la
 ob:=kp.obj k.ob k.lb
 oc:=kp.obj k.oc k.lc
 ab:=k.ab
 ac:=k.ac
 bc:=k.bc
 la:=Nat.lt_of_lt_of_le k.la kp.1
 lb:=Nat.lt_of_lt_of_le k.lb kp.1
 lc:=Nat.lt_of_lt_of_le k.lc kp.1
 hm:=kp.2.1.trans k.hm
theorem KH.setA {a b c:Nat}{ks us ks':List Int}{h:H}(k:KH a b c ks us h)(hl:ks'.length=ks.length):KH a b c ks' us (h.set a (.row 3 1 ((ks'.map iv).map .t))) where
 oa:=by simp [H.set,upd]
 ob:=by simp only [H.set,upd]; rw [if_neg (Ne.symm k.ab)]; exact k.ob
 oc:=by simp only [H.set,upd]; rw [if_neg (Ne.symm k.ac),hl]; exact k.oc
 ab:=k.ab
 ac:=k.ac
 bc:=k.bc
 la:=k.la
 lb:=k.lb
 lc:=k.lc
 hm:=k.hm
theorem KH.setB {a b c:Nat}{ks us us':List Int}{h:H}(k:KH a b c ks us h):KH a b c ks us' (h.set b (.row 3 1 ((us'.map iv).map .t))) where
 oa:=by simp only [H.set,upd]; rw [if_neg k.ab]; exact k.oa
 ob:=by simp [H.set,upd]
 oc:=by simp only [H.set,upd]; rw [if_neg (Ne.symm k.bc)]; exact k.oc
 ab:=k.ab
 ac:=k.ac
 bc:=k.bc
 la:=k.la
 lb:=k.lb
 lc:=k.lc
 hm:=k.hm
theorem k48 {a b c:Nat}{ks us:List Int}{h:H}(k:KH a b c ks us h){j:Int}(h0:0≤j)(hj:j<ks.length)(q:FuncId)(hq:md q 48 = .keep):callD (cx.at q) (call cx prim0) 48 [.t (iv j),.ptr c 0 0 1] h=some (.t (iv (getK ks j)),h):=by
 have:call cx prim0 48 [.t (iv j),.ptr c 0 0 1] h=some (.t (iv (getK ks j)),h):=by
  rw [call_run (cx:=cx) rfl Tryz.func48 ok48 nd48 rfl (lbe rfl) rfl rfl];have hg:((ks.map iv).map D.t)[j.toNat]?=some (.t (iv (getK ks j))):=by
   rw [List.getElem?_map,List.getElem?_map,getK_some h0 hj]; rfl
  have hj':j.toNat<ks.length:=by omega
  simp -implicitDefEqProofs (disch:=omega) [-List.getElem?_map,-List.map_map,k.oa,k.oc,hg,hj']
 exact keepT cb48 hq this
end Go.Proofs.YtaldobgfbkllfaaGreatDoor.P0

namespace Go.Proofs.YtaldobgfbkllfaaGreatDoor
open Vai
def allIn (js:List Int)(i:Nat):Bool:=js.all fun j=>decide (0≤j∧j<i)
def smallU (u:List Int)(B:Int):Prop:=∀ (t:Nat) (v:Int),u[t]?=some v→0≤v∧v≤B
theorem smallU.bump {u:List Int}{B:Int}(h:smallU u B)(h0:0≤B)(j:Int):smallU (bump u j) (B+1):=fun t v hv=>by
 unfold Proofs.YtaldobgfbkllfaaGreatDoor.bump at hv;rw [List.getElem?_set] at hv;split at hv
 · split at hv
   · cases hv
     rename_i hlt;have:=h j.toNat _ (List.getElem?_eq_getElem hlt);unfold getK;rw [List.getElem?_eq_getElem hlt];simp only [Option.getD_some];omega
   · cases hv
 · have:=h t v hv; omega
theorem smallU.get {u:List Int}{B:Int}(h:smallU u B)(h0:0≤B)(j:Int):0≤getK u j∧getK u j≤B:=by
 unfold getK
 cases hv:u[j.toNat]? with
 | none=>simp; omega
 | some v=>simpa using h _ v hv
theorem smallU.bumps {js:List Int}:∀ {u:List Int} {B:Int},smallU u B→0≤B→smallU (js.foldl Proofs.YtaldobgfbkllfaaGreatDoor.bump u) (B+js.length):=by
 induction js with
 | nil=>intro u B h h0; simpa using h
 | cons j js ih =>
  intro u B h h0;have:=ih (h.bump h0 j) (by omega)
  rw [List.foldl_cons,List.length_cons];have e:B+((js.length+1:Nat):Int)=B+1+js.length:=by omega
  rw [e];exact this
theorem uses_len (x:PT):(usesS x).length≤3:=by
 unfold usesS;split
 · simp
 · split
   · simp
   · split<;>simp
theorem usedL_small (ps:List PT):∀ i,smallU (usedL ps i) (3*i)
 | 0=>fun t v hv=>by
  simp only [usedL,List.getElem?_replicate] at hv;split at hv
  · cases hv; simp
  · cases hv
 | i+1=>by
  unfold usedL;split
  · rename_i x hx
    have h1:=(usedL_small ps i).bumps (js:=usesS x) (by omega)
    intro t v hv;have:=h1 t v hv;have:=uses_len x;omega
  · intro t v hv
    have:=usedL_small ps i t v hv;omega
end Go.Proofs.YtaldobgfbkllfaaGreatDoor
namespace Go.Proofs.YtaldobgfbkllfaaGreatDoor.P0
open Vai
variable [Gl]
set_option maxHeartbeats 0
set_option maxRecDepth 100000
theorem nd26:(loopIds (bodyOf Tryz.f26)).Nodup:=by decide +kernel
theorem store_iv {h:H}{id:Nat}{l:List Int}(ho:h.objs id=some (.row 3 1 ((l.map iv).map .t))){i:Nat}(hi:i<l.length)(v:Int) :
  storeD Tryz.prog h 3 (.ptr id i 0 l.length) (.t (iv v))=some (h.set id (.row 3 1 (((l.set i v).map iv).map .t))):=by
 have:=store_one (P:=Tryz.prog) (h:=h) (t:=3) (bt:=3) (id:=id) (i:=i) (top:=l.length) (xs:=l.map iv) (y:=iv v) ho (by simp) hi (by
  intro x hx;obtain ⟨n,_,rfl⟩:=List.mem_map.1 hx;rfl) rfl sz3 (by rw [tk3]; rfl)
 rw [this];simp only [List.map_set]
theorem l26_2 {a b c p:Nat}{ks us:List Int}{x:PT}{i n:Nat}{y:T}{js:List Int}(hy:Slice y (js.map iv))(hl:js.length≤3)(hn:us.length=n)(hin:i<n)(hb0:smallU us 1000000)(hpb:p≠b){st:St}{r:CR}(hLp:loopω (LB cx prim0 26 Tryz.f26 2) st=r)
   (en:st.n=87) (e6:st.env 6 = .row b 0 n n) (e7:st.env 7 = .t (.int .i64 i)) (e35:st.env 35 = .t y) (e36:st.env 36 = .t (.int .i64 js.length)) (e37:st.env 37 = .t (.int .i64 0)) (hK:KH a b c ks us st.h) (hp:st.h.objs p=some (.row 57 9 [.t (prP x)]))
   {d0 d1 d5 d8 d27 d28 d29:D} (e0:st.env 0=d0) (e1:st.env 1=d1) (e5:st.env 5=d5) (e8:st.env 8=d8) (e27:st.env 27=d27) (e28:st.env 28=d28) (e29:st.env 29=d29) :
   ∃ x' st',r=some (x',st')∧st'.n=87∧((x' = .exit 2∧allIn js i=true∧st'.env 6 = .row b 0 n n∧st'.env 7 = .t (.int .i64 i)∧st'.env 0=d0∧st'.env 1=d1∧st'.env 5=d5∧st'.env 8=d8∧st'.env 27=d27∧st'.env 28=d28∧st'.env 29=d29∧KH a b c ks (js.foldl bump us) st'.h∧st'.h.objs p=some (.row 57 9 [.t (prP x)])∧st'.h.next=st.h.next)
     ∨ (x' = .ret∧allIn js i=false∧st'.env 4 = .t (iv 0))):=by
 have hly:=fun hh=>hy.len (P:=Tryz.prog) (t:=60) tk60 hh
 rw [List.length_map] at hly;refine loop_uses hLp js.length
   (fun m s=>s.n=87∧s.env 6 = .row b 0 n n∧s.env 7 = .t (.int .i64 i)∧s.env 35 = .t y∧s.env 36 = .t (.int .i64 js.length)∧s.env 37 = .t (.int .i64 m)∧s.env 0=d0∧s.env 1=d1∧s.env 5=d5∧s.env 8=d8∧s.env 27=d27∧s.env 28=d28∧s.env 29=d29 ∧
     allIn (js.take m) i=true∧KH a b c ks ((js.take m).foldl bump us) s.h∧s.h.objs p=some (.row 57 9 [.t (prP x)])∧s.h.next=st.h.next)
   (fun x' st'=>st'.n=87∧((x' = .exit 2∧allIn js i=true∧st'.env 6 = .row b 0 n n∧st'.env 7 = .t (.int .i64 i)∧st'.env 0=d0∧st'.env 1=d1∧st'.env 5=d5∧st'.env 8=d8∧st'.env 27=d27∧st'.env 28=d28∧st'.env 29=d29∧KH a b c ks (js.foldl bump us) st'.h∧st'.h.objs p=some (.row 57 9 [.t (prP x)])∧st'.h.next=st.h.next)
     ∨ (x' = .ret∧allIn js i=false∧st'.env 4 = .t (iv 0))))
   ⟨en,e6,e7,e35,e36,e37,e0,e1,e5,e8,e27,e28,e29,rfl,hK,hp,rfl⟩ ?_
 generalize st.h.next=nx
 clear hLp en e6 e7 e35 e36 e37 e0 e1 e5 e8 e27 e28 e29 hK hp st;rintro m ⟨nn,env,h2⟩ hm ⟨rfl,e6,e7,e35,e36,e37,e0,e1,e5,e8,e27,e28,e29,hall,hK,hp,hnx⟩;simp only at e6 e7 e35 e36 e37 e0 e1 e5 e8 e27 e28 e29 hK hp hnx;rw [LB_run nd26 rfl];by_cases hm':m<js.length
 · obtain ⟨j,hj⟩:∃ j,js[m]?=some j:=⟨js[m],by simp [hm']⟩
   have hye:y = .slice (js.map iv):=hy.eq_of_ne (by intro e; have:=congrArg List.length e; simp at this; subst this; simp at hm')
   subst hye;have hg:(js.map iv)[m]?=some (iv j):=by rw [List.getElem?_map,hj]; rfl
   have c1:(m:Int)<js.length:=by omega
   have htk:js.take (m+1)=js.take m ++ [j]:=by rw [List.take_add_one,hj]; rfl
   have hbad:¬ (0≤j∧j<i)→allIn js i=false:=fun hn=>by
     unfold allIn;rw [List.all_eq_false];exact ⟨j,List.mem_of_getElem? hj,by simp only [decide_eq_true_eq]; exact hn⟩
   by_cases h0:j<0
   · simp -implicitDefEqProofs (disch:=omega) [-List.getElem?_map,-storeD,e6,e7,e35,e36,e37,hg,Wp_some]
     exact hbad (by omega)
   · by_cases h1:(i:Int)≤j
     · simp -implicitDefEqProofs (disch:=omega) [-List.getElem?_map,-storeD,e6,e7,e35,e36,e37,hg,h0,Wp_some]
       exact hbad (by omega)
     · have hul:((js.take m).foldl bump us).length=n:=by rw [bumps_len,hn]
       have hju:j.toNat<((js.take m).foldl bump us).length:=by omega
       have hget:((((js.take m).foldl bump us).map iv).map D.t)[j.toNat]?=some (.t (iv (getK ((js.take m).foldl bump us) j))):=by
         rw [List.getElem?_map,List.getElem?_map,getK_some (by omega) (by omega)]; rfl
       have hst:=store_iv hK.ob hju (getK ((js.take m).foldl bump us) j+1);have hK2:=hK.setB (us':=bump ((js.take m).foldl bump us) j);have hsm:=(hb0.bumps (js:=js.take m) (by omega)).get (by omega) j
       have hlen3:((js.take m).length:Int)≤3:=by simp; omega
       have hbr:=hK.ob;have hbu:(bump ((js.take m).foldl bump us) j)=((js.take m).foldl bump us).set j.toNat (getK ((js.take m).foldl bump us) j+1):=rfl;have hfo:(js.take (m+1)).foldl bump us=bump ((js.take m).foldl bump us) j:=by rw [htk,List.foldl_append]; rfl
       rw [hul] at hst hju;rw [←hbu] at hst;generalize hU:(js.take m).foldl bump us=U at *;have hlu:((U.map iv).map D.t).length=n:=by simp [hul]
       have hjn:j.toNat<n:=hju;have hK2':=hK2;clear hK2;generalize hE:(U.map iv).map D.t=E at hbr hget hlu;simp -implicitDefEqProofs (disch:=omega) [-List.getElem?_map,-List.map_map,-storeD,-getElem?_pos,e6,e7,e35,e36,e37,e0,e1,e5,e8,e27,e28,e29,hg,h0,h1,hbr,hget,hst,hlu,hjn,Wp_some];refine ⟨hm',?_,?_,?_,hnx⟩
       · unfold allIn at hall ⊢
         rw [htk,List.all_append,hall];simp; omega
       · rw [hfo]; exact hK2'
       · simp only [hpb,if_false]; exact hp
 · obtain rfl:m=js.length:=by omega
   rw [List.take_length] at hall hK;simp -implicitDefEqProofs (disch:=omega) [e6,e7,e35,e36,e37,e0,e1,e5,e8,e27,e28,e29,Wp_some];exact ⟨hall,hK,hp,hnx⟩
end Go.Proofs.YtaldobgfbkllfaaGreatDoor.P0

namespace Go.Proofs.YtaldobgfbkllfaaGreatDoor
open Vai
set_option maxHeartbeats 0
theorem sidesB_allIn (x:PT)(i:Nat):sidesB x i=allIn (usesS x) i:=rfl
theorem allIn_mem {js:List Int}{i:Nat}(h:allIn js i=true){j:Int}(hj:j∈js):0≤j∧j<i:=by
 unfold allIn at h;rw [List.all_eq_true] at h;simpa using h j hj
theorem mayV_kind {k n:Int}{s:ByteArray}(h:mayV k n s=true):1≤k∧k≤3:=by
 unfold mayV at h;split at h
 · omega
 · split at h
   · omega
   · split at h
     · omega
     · cases h
theorem kdS_range {x:PT}{ds:List DV}{K:Int→Int}(hK:∀ j∈usesS x,1≤K j∧K j≤3):0≤kdS x ds K∧kdS x ds K≤3:=by
 obtain ⟨ua,ub,uc⟩:=uses_k (x:=x);have ha:3≤x.k→x.k≤19→1≤K x.a∧K x.a≤3:=fun h h'=>hK _ (ua h h')
 have hb:6≤x.k→x.k≤19→1≤K x.b∧K x.b≤3:=fun h h'=>hK _ (ub h h')
 unfold kdS kind3;by_cases e1:x.k=1
 · rw [if_pos e1]
   split
   · rename_i h; have:=mayV_kind h; omega
   · omega
 rw [if_neg e1];generalize K x.a=A at *;generalize K x.b=B at *;generalize K x.c=C at *;generalize declK ds x.nm=D;clear hK ua ub uc
 iterate 10
   split
   · split<;>omega
 omega
theorem kindsL_get {ps:List PT}{ds:List DV}{i j:Nat}(h:j<i):(kindsL ps ds i)[j]? = (kindsL ps ds (j+1))[j]?:=by
 induction i with
 | zero=>omega
 | succ i ih =>
  by_cases e:j=i
  · subst e; rfl
  · rw [←ih (by omega)]
    show (kindsL ps ds i++_)[j]? = _;rw [List.getElem?_append_left (by rw [kindsL_len]; omega)]
theorem good_range {ps:List PT}{ds:List DV}:∀ {i:Nat},goodK ps ds i=true→∀ j:Int,0≤j→j<i→1≤getK (kindsL ps ds i) j∧getK (kindsL ps ds i) j≤3
 | 0,_,j,h0,h1=>by omega
 | i+1,hg,j,h0,h1=>by
  simp only [goodK,Bool.and_eq_true] at hg;obtain ⟨hg,hx⟩:=hg;split at hx
  case h_2=>cases hx
  rename_i x hxi;simp only [Bool.and_eq_true,Bool.not_eq_true',decide_eq_false_iff_not] at hx;have ih:=good_range hg;by_cases e:j=i
  · subst e
    unfold getK;have:(kindsL ps ds (i+1))[(i:Int).toNat]?=some (kdS x ds (getK (kindsL ps ds i))):=by
     show (kindsL ps ds i++_)[(i:Int).toNat]? = _;rw [List.getElem?_append_right (by rw [kindsL_len]; omega),kindsL_len]
     simp [hxi]
    rw [this];simp only [Option.getD_some];have hr:=kdS_range (x:=x) (ds:=ds) (K:=getK (kindsL ps ds i)) fun j hj=>by
     have:=allIn_mem hx.1 hj;exact ih j this.1 this.2
    omega
  · have h2:=ih j h0 (by omega)
    unfold getK at h2 ⊢;show 1≤((kindsL ps ds i++_)[j.toNat]?).getD 0∧((kindsL ps ds i++_)[j.toNat]?).getD 0≤3;rw [List.getElem?_append_left (by rw [kindsL_len]; omega)]
    exact h2
end Go.Proofs.YtaldobgfbkllfaaGreatDoor

namespace Go.Proofs.YtaldobgfbkllfaaGreatDoor
open Vai
theorem goodK_at {ps:List PT}{ds:List DV}{k:Nat}{x:PT}(hx:ps[k]?=some x)(hg:goodK ps ds k=true):goodK ps ds (k+1)=(sidesB x k && !decide (kdS x ds (getK (kindsL ps ds k))=0)):=by
 simp only [goodK,hg,Bool.true_and,hx]
theorem kindsL_at {ps:List PT}{ds:List DV}{k:Nat}{x:PT}(hx:ps[k]?=some x):kindsL ps ds (k+1)=kindsL ps ds k ++ [kdS x ds (getK (kindsL ps ds k))]:=by
 simp only [kindsL,hx]
theorem usedL_at {ps:List PT}{k:Nat}{x:PT}(hx:ps[k]?=some x):usedL ps (k+1)=(usesS x).foldl bump (usedL ps k):=by
 simp only [usedL,hx]
end Go.Proofs.YtaldobgfbkllfaaGreatDoor
namespace Go.Proofs.YtaldobgfbkllfaaGreatDoor.P0
open Vai
variable [Gl]
set_option maxHeartbeats 0
set_option maxRecDepth 100000
theorem l26_0 {a b c:Nat}{ps:List PT}{ds:List DV}{y:T}(hy:Slice y (ds.map decT))(hl:ds.length≤2000000)(hps:∀ x∈ps,x.s.size≤1000000000)(hn:ps.length≤256){st:St}{r:CR}(hLp:loopω (LB cx prim0 26 Tryz.f26 0) st=r)
   (en:st.n=87) (e0:st.env 0 = .t (.slice (ps.map prP))) (e1:st.env 1 = .t y) (e5:st.env 5 = .ptr c 0 0 1) (e6:st.env 6 = .row b 0 ps.length ps.length) (e27:st.env 27 = .t (.slice (ps.map prP))) (e28:st.env 28 = .t (.int .i64 ps.length)) (e29:st.env 29 = .t (.int .i64 0))
   (hK:KH a b c (padK [] ps.length) (usedL ps 0) st.h) :
   ∃ x' st',r=some (x',st')∧st'.n=87∧((x' = .exit 0∧goodK ps ds ps.length=true∧st'.env 0 = .t (.slice (ps.map prP))∧st'.env 5 = .ptr c 0 0 1∧st'.env 6 = .row b 0 ps.length ps.length∧KH a b c (kindsL ps ds ps.length) (usedL ps ps.length) st'.h)
     ∨ (x' = .ret∧goodK ps ds ps.length=false∧st'.env 4 = .t (iv 0))):=by
 refine loop_uses hLp ps.length
   (fun k s=>s.n=87∧s.env 0 = .t (.slice (ps.map prP))∧s.env 1 = .t y∧s.env 5 = .ptr c 0 0 1∧s.env 6 = .row b 0 ps.length ps.length∧s.env 27 = .t (.slice (ps.map prP))∧s.env 28 = .t (.int .i64 ps.length)∧s.env 29 = .t (.int .i64 k) ∧
     goodK ps ds k=true∧KH a b c (padK (kindsL ps ds k) ps.length) (usedL ps k) s.h)
   (fun x' st'=>st'.n=87∧((x' = .exit 0∧goodK ps ds ps.length=true∧st'.env 0 = .t (.slice (ps.map prP))∧st'.env 5 = .ptr c 0 0 1∧st'.env 6 = .row b 0 ps.length ps.length∧KH a b c (kindsL ps ds ps.length) (usedL ps ps.length) st'.h)
     ∨ (x' = .ret∧goodK ps ds ps.length=false∧st'.env 4 = .t (iv 0))))
   ⟨en,e0,e1,e5,e6,e27,e28,e29,rfl,hK⟩ ?_
 clear hLp en e0 e1 e5 e6 e27 e28 e29 hK st;rintro k ⟨nn,env,h2⟩ hk ⟨rfl,e0,e1,e5,e6,e27,e28,e29,hg,hK⟩;simp only at e0 e1 e5 e6 e27 e28 e29 hK;rw [LB_run nd26 rfl];by_cases hk':k<ps.length
 · obtain ⟨x,hx⟩:∃ x,ps[k]?=some x:=⟨ps[k],by simp [hk']⟩
   have hgx:(ps.map prP)[k]?=some (prP x):=by rw [List.getElem?_map,hx]; rfl
   have c1:(k:Int)<ps.length:=by omega
   have hxm:=hps x (List.mem_of_getElem? hx);obtain ⟨y',hy',q47⟩:=c47 (c:=26) x (h2.push (.row 57 9 [.t (prP x)])) rfl;have hly:=hy'.len (P:=Tryz.prog) (t:=60) tk60 (h2.push (.row 57 9 [.t (prP x)]));rw [List.length_map] at hly;have hK1:=hK.keeps (Keeps.push h2 (.row 57 9 [.t (prP x)]));simp -implicitDefEqProofs (disch:=omega) [-List.getElem?_map,e0,e1,e5,e6,e27,e28,e29,hgx,q47,hly,push_set];generalize hLp:loopω (LB cx prim0 26 Tryz.f26 2) _=R;obtain ⟨x',⟨nn,env2,h3⟩,rfl,rfl,hq⟩:=l26_2 (a:=a) (b:=b) (c:=c) (p:=h2.next) (ks:=padK (kindsL ps ds k) ps.length) (us:=usedL ps k) (x:=x) (i:=k) (n:=ps.length) (y:=y') (js:=usesS x) hy' (uses_len x) (usedL_len ps k) hk' (fun t v hv=>by have:=usedL_small ps k t v hv; omega) (Nat.ne_of_gt hK.lb) hLp rfl
     (by simp [e6]) (by simp) (by simp) (by simp) (by simp) hK1 (by simp) (d0:=.t (.slice (ps.map prP))) (d1:=.t y) (d5:=.ptr c 0 0 1) (d8:=.ptr h2.next 0 0 1) (d27:=.t (.slice (ps.map prP))) (d28:=.t (.int .i64 ps.length)) (d29:=.t (.int .i64 k)) (by simp [e0]) (by simp [e1]) (by simp [e5]) (by simp) (by simp [e27]) (by simp [e28]) (by simp [e29])
   rcases hq with ⟨rfl,hall,f6,f7,f0,f1,f5,f8,f27,f28,f29,hK3,hp3,hn3⟩|⟨rfl,hall,f4⟩
   · simp only at f6 f7 f0 f1 f5 f8 f27 f28 f29 hK3 hp3 hn3
     clear hLp q47 hly e0 e1 e5 e6 e27 e28 e29 hK1;have hkl:(kindsL ps ds k).length=k:=kindsL_len ps ds k;have hpl:(padK (kindsL ps ds k) ps.length).length=ps.length:=padK_len (by omega)
     have hKr:∀ j∈usesS x,1≤getK (kindsL ps ds k) j∧getK (kindsL ps ds k) j≤3:=fun j hj=>by
       have:=allIn_mem hall hj;exact good_range hg j this.1 this.2
     have kp4:Keeps h3 (H41 h3 x 48 c):=(Keeps.push _ _).trans (Keeps.push _ _);have hK4:=hK3.keeps kp4;have q41:=keepT (cc:=cx.at 26) cb41 rfl (s41 (x:=x) (fo:=48) (ko:=c) (K:=getK (kindsL ps ds k)) hy hl hK3.hm hxm hKr (fun j hj q hq=>by
       have h1:=allIn_mem hall hj;have:=k48 hK4 (j:=j) h1.1 (by rw [hpl]; omega) q (by rcases hq with rfl|rfl|rfl<;>rfl)
       rw [padK_get h1.1 (by omega)] at this
       exact this))
     have hga:=goodK_at hx hg;rw [sidesB_allIn,hall,Bool.true_and] at hga;have hka:=kindsL_at (ds:=ds) hx;have hua:=usedL_at hx;generalize hV:kdS x ds (getK (kindsL ps ds k))=v at q41 hga hka;have o3c:=hK3.oc;rw [hpl] at o3c;have o4c:=hK4.oc;rw [hpl] at o4c;have o4a:=hK4.oa;have hst:=store_iv hK4.oa (i:=k) (by rw [hpl]; exact hk') v
     have hK5:=hK4.setA (ks':=(padK (kindsL ps ds k) ps.length).set k v) (by simp)
     have hset:(padK (kindsL ps ds k) ps.length).set k v=padK (kindsL ps ds (k+1)) ps.length:=by
       rw [hka,←padK_set (by omega),hkl]
     rw [hset] at hst hK5;rw [hpl] at hst;generalize H41 h3 x 48 c=h4 at *;generalize h4.set a _=h5 at hst hK5;have hpl5:(padK (kindsL ps ds (k+1)) ps.length).length=ps.length:=padK_len (by rw [kindsL_len]; omega)
     have o5c:=hK5.oc;rw [hpl5] at o5c;have o5a:=hK5.oa;have g5:(((padK (kindsL ps ds (k+1)) ps.length).map iv).map D.t)[k]?=some (.t (iv v)):=by
       rw [←hset,List.getElem?_map,List.getElem?_map,List.getElem?_set_self (by omega)]; rfl
     have l4:(((padK (kindsL ps ds k) ps.length).map iv).map D.t).length=ps.length:=by simp [hpl]
     have l5:(((padK (kindsL ps ds (k+1)) ps.length).map iv).map D.t).length=ps.length:=by simp [hpl5]
     generalize ((padK (kindsL ps ds k) ps.length).map iv).map D.t=E4 at o4a l4;generalize hE5:((padK (kindsL ps ds (k+1)) ps.length).map iv).map D.t=E5 at o5a l5 g5;by_cases hv0:v=0
     · have e0:eqI v 0=true:=eqI_true hv0
       simp -implicitDefEqProofs (disch:=omega) [-List.getElem?_map,-List.map_map,-storeD,-getElem?_pos,f6,f7,f0,f1,f5,f8,f27,f28,f29,o3c,hp3,q41,o4c,o4a,l4,hst,o5c,o5a,l5,g5,hk',e0,md,Wp_some];refine goodK_mono (i:=k+1) (by omega) ?_
       rw [hga]; simp [hv0]
     · have e0:eqI v 0=false:=eqI_false hv0
       simp -implicitDefEqProofs (disch:=omega) [-List.getElem?_map,-List.map_map,-storeD,-getElem?_pos,f6,f7,f0,f1,f5,f8,f27,f28,f29,o3c,hp3,q41,o4c,o4a,l4,hst,o5c,o5a,l5,g5,hk',e0,md,Wp_some];exact ⟨by rw [hga]; simp [hv0],by rw [hua]; exact hK5⟩
   · simp only at f4
     simp -implicitDefEqProofs (disch:=omega) [f4,Wp_some];refine goodK_mono (i:=k+1) (by omega) ?_
     rw [goodK_at hx hg,sidesB_allIn,hall,Bool.false_and]
 · obtain rfl:k=ps.length:=by omega
   simp -implicitDefEqProofs (disch:=omega) [e0,e1,e5,e6,e27,e28,e29,Wp_some];have e:padK (kindsL ps ds ps.length) ps.length=kindsL ps ds ps.length:=by simp [padK,kindsL_len]
   rw [e] at hK;exact ⟨hg,hK⟩
end Go.Proofs.YtaldobgfbkllfaaGreatDoor.P0
