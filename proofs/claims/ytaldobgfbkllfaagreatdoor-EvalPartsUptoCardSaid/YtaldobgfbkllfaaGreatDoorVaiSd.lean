import Derived.Test.YtaldobgfbkllfaaGreatDoorVaiSc
set_option linter.unusedSimpArgs false
set_option linter.unusedVariables false
set_option linter.unusedSectionVars false
namespace Go.Proofs.YtaldobgfbkllfaaGreatDoor.P0
open Vai
variable [Gl]
set_option maxHeartbeats 0
theorem s23 (k n:Int)(s:ByteArray)(hs:s.size≤1000000000):∃ h',call cx prim0 23 [.t (valT k n s)] .empty=some (.t (.bool (mayV k n s)),h'):=by
 rw [call_run (cx:=cx) rfl Tryz.func23 ok23 nd23 rfl (lbe rfl) rfl rfl];have q45:=fun h=>c45 (c:=23) s h hs rfl
 unfold mayV;by_cases h1:k=1
 · subst h1; simp -implicitDefEqProofs (disch:=omega) []
 have e1:eqI k 1=false:=eqI_false h1;by_cases h2:k=2
 · subst h2
   cases hs0:eqS s ⟨#[]⟩ with
   | false=>simp -implicitDefEqProofs (disch:=omega) [hs0]
   | true =>
     by_cases hn:n=0
     · subst hn; simp -implicitDefEqProofs (disch:=omega) [hs0]
     · have e3:eqI n 0=false:=eqI_false hn
       simp -implicitDefEqProofs (disch:=omega) [hs0,e3]
 have e2:eqI k 2=false:=eqI_false h2;by_cases h3:k=3
 · subst h3
   by_cases hn:n=0
   · subst hn
     by_cases h64:s.size≤64
     · have c1:(s.size:Int)≤64:=by omega
       simp -implicitDefEqProofs (disch:=omega) [q45,h64]
     · have c1:¬ (s.size:Int)≤64:=by omega
       simp -implicitDefEqProofs (disch:=omega) [q45,h64]
   · have e3:eqI n 0=false:=eqI_false hn
     simp -implicitDefEqProofs (disch:=omega) [e3]
 have e3:eqI k 3=false:=eqI_false h3;simp -implicitDefEqProofs (disch:=omega) [e1,e2,e3,h1,h2,h3]
theorem c23 {c:FuncId}(k n:Int)(s:ByteArray)(h:H)(hs:s.size≤1000000000)(hm:md c 23 = .pure):callD (cx.at c) (call cx prim0) 23 [.t (valT k n s)] h=some (.t (.bool (mayV k n s)),h):=by
 obtain ⟨h',q⟩:=s23 k n s hs;exact pureT cb23 hm q rfl rfl
theorem s59 (k n:Int)(s:ByteArray)(hs:s.size≤1000000000):∃ h',call cx prim0 59 [.t (valT k n s)] .empty=some (.t (.bool (mayV k n s)),h'):=by
 rw [call_run (cx:=cx) rfl Tryz.func59 ok59 nd59 rfl (lbe rfl) rfl rfl];have q103:=fun h=>c103 (c:=59) s h hs rfl
 unfold mayV;by_cases h1:k=1
 · subst h1; simp -implicitDefEqProofs (disch:=omega) []
 have e1:eqI k 1=false:=eqI_false h1;by_cases h2:k=2
 · subst h2
   cases hs0:eqS s ⟨#[]⟩ with
   | false=>simp -implicitDefEqProofs (disch:=omega) [hs0]
   | true =>
     have d1:n.fdiv 2=n/2:=fdiv_pos' (by omega)
     by_cases hn:n=0∨n=1
     · rcases hn with rfl|rfl
       · simp -implicitDefEqProofs (disch:=omega) [hs0]
       · simp -implicitDefEqProofs (disch:=omega) [hs0]
     · have e4:eqI n 0=false:=eqI_false (by omega)
       have e5:eqI n 1=false:=eqI_false (by omega)
       have e6:eqI (n/2) 0=false:=eqI_false (by omega)
       simp -implicitDefEqProofs (disch:=omega) [hs0,e4,e5,e6,d1]
 have e2:eqI k 2=false:=eqI_false h2;by_cases h3:k=3
 · subst h3
   by_cases hn:n=0
   · subst hn
     by_cases h64:s.size≤64
     · have c1:(s.size:Int)≤64:=by omega
       simp -implicitDefEqProofs (disch:=omega) [q103,h64]
     · have c1:¬ (s.size:Int)≤64:=by omega
       simp -implicitDefEqProofs (disch:=omega) [q103,h64]
   · have e3:eqI n 0=false:=eqI_false hn
     simp -implicitDefEqProofs (disch:=omega) [e3]
 have e3:eqI k 3=false:=eqI_false h3;simp -implicitDefEqProofs (disch:=omega) [e1,e2,e3,h1,h2,h3]
theorem c59 {c:FuncId}(k n:Int)(s:ByteArray)(h:H)(hs:s.size≤1000000000)(hm:md c 59 = .pure):callD (cx.at c) (call cx prim0) 59 [.t (valT k n s)] h=some (.t (.bool (mayV k n s)),h):=by
 obtain ⟨h',q⟩:=s59 k n s hs;exact pureT cb59 hm q rfl rfl
end Go.Proofs.YtaldobgfbkllfaaGreatDoor.P0

namespace Go.Proofs.YtaldobgfbkllfaaGreatDoor
open Vai
variable [Gl]
set_option maxHeartbeats 0
theorem sl_str {s:ByteArray}{a b:Int}(h:H)(h0:0≤a)(h1:a≤b)(h2:b≤s.size):sliceD Tryz.prog h 9 (.t (.str s)) (some (.t (.int .i64 a))) (some (.t (.int .i64 b))) none=some (.t (.str (s.extract a.toNat b.toNat))):=P0.sl_str h h0 h1 h2
section
variable {c:FuncId}
theorem c82 (r:Int)(h:H)(hm:md c 82 = .pure):callD (cx.at c) (call cx prim) 82 [.t (.int .i32 r)] h=some (.t (.bool (charB r)),h):=callD_mono (call_prims prim0Le) (P0.c82 r h hm)
theorem c142 (r:Int)(h:H)(hm:md c 142 = .pure):callD (cx.at c) (call cx prim) 142 [.t (.int .i32 r)] h=some (.t (.bool (charB r)),h):=callD_mono (call_prims prim0Le) (P0.c142 r h hm)
theorem c116 (s:ByteArray)(i:Nat)(h:H)(hs:s.size≤1000000000)(hm:md c 116 = .pure):callD (cx.at c) (call cx prim) 116 [.t (.str s),.t (.int .i64 i)] h=some (.tup [.t (.int .i32 (nx s i).1),.t (.int .i64 (nx s i).2)],h):=callD_mono (call_prims prim0Le) (P0.c116 s i h hs hm)
theorem c70 (s:ByteArray)(h:H)(hs:s.size≤1000000000)(hm:md c 70 = .pure):callD (cx.at c) (call cx prim) 70 [.t (.str s)] h=some (.t (.int .i64 (bad s 0)),h):=callD_mono (call_prims prim0Le) (P0.c70 s h hs hm)
theorem c81 (s:ByteArray)(i:Nat)(h:H)(hs:s.size≤1000000000)(hm:md c 81 = .pure):callD (cx.at c) (call cx prim) 81 [.t (.str s),.t (.int .i64 i)] h=some (.tup [.t (.int .i32 (nx s i).1),.t (.int .i64 (nx s i).2)],h):=callD_mono (call_prims prim0Le) (P0.c81 s i h hs hm)
theorem c45 (s:ByteArray)(h:H)(hs:s.size≤1000000000)(hm:md c 45 = .pure):callD (cx.at c) (call cx prim) 45 [.t (.str s)] h=some (.t (.bool (chs s 0)),h):=callD_mono (call_prims prim0Le) (P0.c45 s h hs hm)
theorem c23 (k n:Int)(s:ByteArray)(h:H)(hs:s.size≤1000000000)(hm:md c 23 = .pure):callD (cx.at c) (call cx prim) 23 [.t (valT k n s)] h=some (.t (.bool (mayV k n s)),h):=callD_mono (call_prims prim0Le) (P0.c23 k n s h hs hm)
theorem c59 (k n:Int)(s:ByteArray)(h:H)(hs:s.size≤1000000000)(hm:md c 59 = .pure):callD (cx.at c) (call cx prim) 59 [.t (valT k n s)] h=some (.t (.bool (mayV k n s)),h):=callD_mono (call_prims prim0Le) (P0.c59 k n s h hs hm)
end
def okN (i b:Nat):Bool:=letterB b||(decide (0<i)&&(digitB b||decide (b=45)))
def nmAll (s:ByteArray)(i:Nat):Bool:=if h:i<s.size then okN i (bt s i)&&nmAll s (i+1) else true
termination_by s.size-i
def nameB (s:ByteArray):Bool:=nmAll s 0&&decide (1≤s.size)&&decide (s.size≤32)
theorem nmAll_step {s:ByteArray}{i:Nat}(h:i<s.size):nmAll s i=(okN i (bt s i)&&nmAll s (i+1)):=by rw [nmAll,dif_pos h]
theorem nmAll_over {s:ByteArray}{i:Nat}(h:s.size≤i):nmAll s i=true:=by rw [nmAll,dif_neg (by omega)]
theorem okN_cases (i b:Nat):((65≤b∧b≤90)∨(97≤b∧b≤122)∨b=95)∧okN i b=true∨(48≤b∧b≤57∨b=45)∧okN i b=decide (0<i)∨(¬ (65≤b∧b≤90)∧¬ (97≤b∧b≤122)∧b≠95∧¬ (48≤b∧b≤57)∧b≠45)∧okN i b=false:=by
 by_cases h1:(65≤b∧b≤90)∨(97≤b∧b≤122)∨b=95
 · exact .inl ⟨h1,by simp [okN,letterB,h1]⟩
 by_cases h2:48≤b∧b≤57∨b=45
 · refine .inr (.inl ⟨h2,?_⟩)
   have hl:letterB b=false:=by simp only [letterB,decide_eq_false_iff_not]; omega
   have hd:(digitB b||decide (b=45))=true:=by simp only [digitB,Bool.or_eq_true,decide_eq_true_eq]; omega
   simp [okN,hl,hd]
 · refine .inr (.inr ⟨by omega,?_⟩)
   have hl:letterB b=false:=by simp only [letterB,decide_eq_false_iff_not]; omega
   have hd:(digitB b||decide (b=45))=false:=by simp only [digitB,Bool.or_eq_false_iff,decide_eq_false_iff_not]; omega
   simp [okN,hl,hd]
theorem s58 (s:ByteArray)(hs:s.size≤1000000000):∃ h',call cx prim 58 [.t (.str s)] .empty=some (.t (.bool (nameB s)),h'):=by
 rw [call_run (cx:=cx) rfl Tryz.func58 ok58 nd58 rfl (lbe rfl) rfl rfl];simp -implicitDefEqProofs (disch:=omega) [];generalize hLp:loopω _ _=L;obtain ⟨x,⟨nn,env,h2⟩,rfl,rfl,hx⟩:=loop_uses hLp s.size
   (fun k st=>st.n=58∧st.env 0 = .t (.str s)∧st.env 7 = .t (.int .i64 s.size)∧st.env 8 = .t (.int .i64 k)∧nmAll s k=nmAll s 0)
   (fun x st=>st.n=58∧((x = .exit 0∧nmAll s 0=true∧st.env 0 = .t (.str s))∨(x = .ret∧nmAll s 0=false∧st.env 2 = .t (.bool false))))
   (by refine ⟨rfl,?_⟩; simp) (by
   rintro k ⟨nn,env,h2⟩ hk ⟨rfl,e0,e7,e8,hb⟩;simp only at e0 e7 e8;rw [LB_run nd58 rfl];by_cases hk':k<s.size
   · obtain ⟨b,hbb,hbt⟩:=bt_get hk'
     have c1:(k:Int)<s.size:=by omega
     rw [nmAll_step hk',hbt] at hb;have h45:b.toNat≠45→eqI (b.toNat:Int) 45=false:=fun h=>eqI_false (by omega)
     have h95:b.toNat≠95→eqI (b.toNat:Int) 95=false:=fun h=>eqI_false (by omega)
     rcases okN_cases k b.toNat with ⟨hc,ho⟩|⟨hc,ho⟩|⟨hc,ho⟩
     · rw [ho,Bool.true_and] at hb
       rcases hc with hc|hc|hc
       · simp -implicitDefEqProofs (disch:=omega) [e0,e7,e8,hbb,Wp_some]
         exact ⟨hk',hb⟩
       · simp -implicitDefEqProofs (disch:=omega) [e0,e7,e8,hbb,Wp_some]
         exact ⟨hk',hb⟩
       · simp -implicitDefEqProofs (disch:=omega) [e0,e7,e8,hbb,hc,Wp_some]
         exact ⟨hk',hb⟩
     · have n95:=h95 (by omega)
       by_cases h0:k=0
       · subst h0
         simp only [Nat.lt_irrefl,decide_false] at ho;rw [ho,Bool.false_and] at hb;rcases hc with hc|hc
         · simp -implicitDefEqProofs (disch:=omega) [e0,e7,e8,hbb,n95,Wp_some]
           exact hb.symm
         · simp -implicitDefEqProofs (disch:=omega) [e0,e7,e8,hbb,hc,Wp_some]
           exact hb.symm
       · have k0:eqI (k:Int) 0=false:=eqI_false (by omega)
         rw [decide_eq_true (by omega:0<k)] at ho
         rw [ho,Bool.true_and] at hb;rcases hc with hc|hc
         · have n45:=h45 (by omega)
           simp -implicitDefEqProofs (disch:=omega) [e0,e7,e8,hbb,n95,n45,k0,Wp_some];exact ⟨hk',hb⟩
         · simp -implicitDefEqProofs (disch:=omega) [e0,e7,e8,hbb,hc,k0,Wp_some]
           exact ⟨hk',hb⟩
     · have n95:=h95 (by omega)
       have n45:=h45 (by omega)
       rw [ho,Bool.false_and] at hb;by_cases h0:k=0
       · subst h0
         by_cases g1:65≤b.toNat<;>by_cases g2:97≤b.toNat<;>by_cases g3:48≤b.toNat <;>
         first|(exfalso; omega)|(simp -implicitDefEqProofs (disch:=omega) [e0,e7,e8,hbb,n95,n45,Wp_some]; exact hb.symm)
       · have k0:eqI (k:Int) 0=false:=eqI_false (by omega)
         by_cases g1:65≤b.toNat<;>by_cases g2:97≤b.toNat<;>by_cases g3:48≤b.toNat <;>
         first|(exfalso; omega)|(simp -implicitDefEqProofs (disch:=omega) [e0,e7,e8,hbb,n95,n45,k0,Wp_some]; exact hb.symm)
   · obtain rfl:k=s.size:=by omega
     rw [nmAll_over (Nat.le_refl _)] at hb;simp -implicitDefEqProofs (disch:=omega) [e0,e7,e8,Wp_some,←hb])
 unfold nameB;rcases hx with ⟨rfl,hb,e0⟩|⟨rfl,hb,e2⟩
 · simp only at e0
   by_cases h0:s=⟨#[]⟩
   · subst h0
     have z:(⟨#[]⟩:ByteArray).size=0:=rfl;rw [z,decide_eq_false (by omega:¬ 1≤0),Bool.and_false,Bool.false_and]
     have hes:eqS (⟨#[]⟩:ByteArray) ⟨#[]⟩=true:=by simp [eqS]
     simp -implicitDefEqProofs (disch:=omega) [e0,hes]
   · have hpos:1≤s.size:=by
       apply Classical.byContradiction;intro hn;apply h0
       cases s with
       | mk d =>
         have hd:d.size=0:=by
           have:(⟨d⟩:ByteArray).size=d.size:=rfl;omega
         rw [Array.size_eq_zero_iff.1 hd]
     have hes:eqS s ⟨#[]⟩=false:=by simp only [eqS,h0,decide_false]
     rw [decide_eq_true hpos,hb];by_cases h32:s.size≤32
     · have c1:(s.size:Int)≤32:=by omega
       simp -implicitDefEqProofs (disch:=omega) [e0,hes,h32]
     · have c1:¬ (s.size:Int)≤32:=by omega
       simp -implicitDefEqProofs (disch:=omega) [e0,hes,h32]
 · simp only at e2
   simp -implicitDefEqProofs (disch:=omega) [hb,e2]
theorem c58 {c:FuncId}(s:ByteArray)(h:H)(hs:s.size≤1000000000)(hm:md c 58 = .pure):callD (cx.at c) (call cx prim) 58 [.t (.str s)] h=some (.t (.bool (nameB s)),h):=by
 obtain ⟨h',q⟩:=s58 s hs;exact pureT cb58 hm q rfl rfl
abbrev WV:=ByteArray × Int × Int × ByteArray
abbrev varW (v:WV):T:=.agg [.str v.1,.int .i64 v.2.1,.int .i64 v.2.2.1,.str v.2.2.2]
def lessS (a b:ByteArray):Bool:=Op.bytesLess a.toList b.toList
def okAt (vs:List WV)(i:Nat):Bool:=match vs[i]? with
 | some v=>nameB v.1&&mayV v.2.1 v.2.2.1 v.2.2.2&&(match i with|0=>true|j+1=>match vs[j]? with|some u=>lessS u.1 v.1|none=>true)
 | none=>true
def varsA (vs:List WV)(i:Nat):Bool:=if h:i<vs.length then okAt vs i&&varsA vs (i+1) else true
termination_by vs.length-i
def varsB (vs:List WV):Bool:=varsA vs 0&&decide (vs.length≤16)
theorem varsA_step {vs:List WV}{i:Nat}(h:i<vs.length):varsA vs i=(okAt vs i&&varsA vs (i+1)):=by rw [varsA,dif_pos h]
theorem varsA_over {vs:List WV}{i:Nat}(h:vs.length≤i):varsA vs i=true:=by rw [varsA,dif_neg (by omega)]
def smallW (vs:List WV):Prop:=vs.length≤2000000∧∀ v∈vs,v.1.size≤1000000000∧v.2.2.2.size≤1000000000
theorem s34 {x:T}{vs:List WV}(hx:Slice x (vs.map varW))(hs:smallW vs):∃ h',call cx prim 34 [.t x] .empty=some (.t (.bool (varsB vs)),h'):=by
 rw [call_run (cx:=cx) rfl Tryz.func34 ok34 nd34 rfl (lbe rfl) rfl rfl];have hlx:=fun hh=>hx.len (P:=Tryz.prog) (t:=23) tk23 hh
 rw [List.length_map] at hlx;have hs1:=hs.1;simp -implicitDefEqProofs (disch:=omega) [hlx];generalize hLp:loopω _ _=L;obtain ⟨x',⟨nn,env,h2⟩,rfl,rfl,hq⟩:=loop_uses hLp vs.length
   (fun k st=>st.n=41∧st.env 0 = .t x∧st.env 5 = .t x∧st.env 6 = .t (.int .i64 vs.length)∧st.env 7 = .t (.int .i64 k)∧varsA vs k=varsA vs 0)
   (fun x' st=>st.n=41∧((x' = .exit 0∧varsA vs 0=true∧st.env 0 = .t x)∨(x' = .ret∧varsA vs 0=false∧st.env 2 = .t (.bool false))))
   (by refine ⟨rfl,?_⟩; simp) (by
   rintro k ⟨nn,env,h2⟩ hk ⟨rfl,e0,e5,e6,e7,hb⟩;simp only at e0 e5 e6 e7;rw [LB_run nd34 rfl];by_cases hk':k<vs.length
   · obtain ⟨v,hv⟩:∃ v,vs[k]?=some v:=⟨vs[k],by simp [hk']⟩
     have hxe:x = .slice (vs.map varW):=hx.eq_of_ne (by intro e; have:=congrArg List.length e; simp at this; subst this; simp at hk')
     subst hxe;have hg:(vs.map varW)[k]?=some (varW v):=by rw [List.getElem?_map,hv]; rfl
     have hm:=hs.2 v (List.mem_of_getElem? hv);have c1:(k:Int)<vs.length:=by omega
     have q58:=fun h=>c58 (c:=34) v.1 h hm.1 rfl
     have q59:=fun h=>c59 (c:=34) v.2.1 v.2.2.1 v.2.2.2 h hm.2 rfl
     rw [varsA_step hk'] at hb;unfold okAt at hb;rw [hv] at hb;simp only at hb
     cases h1:nameB v.1 with
     | false =>
      rw [h1] at hb q58;simp only [Bool.false_and] at hb;simp -implicitDefEqProofs (disch:=omega) [-List.getElem?_map,e0,e5,e6,e7,hg,q58,Wp_some];exact hb.symm
     | true =>
      cases h2:mayV v.2.1 v.2.2.1 v.2.2.2 with
      | false =>
       rw [h1,h2] at hb;rw [h1] at q58;rw [h2] at q59;simp only [Bool.false_and,Bool.and_false] at hb;simp -implicitDefEqProofs (disch:=omega) [-List.getElem?_map,e0,e5,e6,e7,hg,q58,q59,Wp_some];exact hb.symm
      | true =>
       rw [h1,h2] at hb;rw [h1] at q58;rw [h2] at q59;simp only [Bool.true_and] at hb
       match k,hk',hk,hb,hv,hg,e7,c1 with
       | 0,hk',hk,hb,hv,hg,e7,c1 =>
        simp only [Bool.true_and] at hb;simp -implicitDefEqProofs (disch:=omega) [-List.getElem?_map,e0,e5,e6,e7,hg,q58,q59,Wp_some];exact ⟨hk',hb⟩
       | k+1,hk',hk,hb,hv,hg,e7,c1 =>
        obtain ⟨u,hu⟩:∃ u,vs[k]?=some u:=⟨vs[k]'(by omega),by simp [show k<vs.length by omega]⟩
        have hgu:(vs.map varW)[k]?=some (varW u):=by rw [List.getElem?_map,hu]; rfl
        simp only [hu] at hb;simp only [Int.natCast_add,Int.natCast_one] at e7 c1;have e1:(k:Int)+1-1=k:=by omega
        have gk:((k:Int)+1).toNat=k+1:=by omega
        have c0:(0:Int)<(k:Int)+1:=by omega
        cases h3:lessS u.1 v.1 with
        | false =>
         rw [h3,Bool.false_and] at hb;unfold lessS at h3;simp -implicitDefEqProofs (disch:=omega) [-List.getElem?_map,e0,e5,e6,e7,hg,hgu,q58,q59,h3,e1,gk,Wp_some];exact hb.symm
        | true =>
         rw [h3,Bool.true_and] at hb;unfold lessS at h3;simp -implicitDefEqProofs (disch:=omega) [-List.getElem?_map,e0,e5,e6,e7,hg,hgu,q58,q59,h3,e1,gk,Wp_some];exact ⟨hk',hb⟩
   · obtain rfl:k=vs.length:=by omega
     rw [varsA_over (Nat.le_refl _)] at hb;simp -implicitDefEqProofs (disch:=omega) [e0,e5,e6,e7,Wp_some,←hb])
 unfold varsB;rcases hq with ⟨rfl,hb,e0⟩|⟨rfl,hb,e2⟩
 · simp only at e0
   rw [hb,Bool.true_and];by_cases h16:vs.length≤16
   · have c1:(vs.length:Int)≤16:=by omega
     simp -implicitDefEqProofs (disch:=omega) [e0,hlx,h16]
   · have c1:¬ (vs.length:Int)≤16:=by omega
     simp -implicitDefEqProofs (disch:=omega) [e0,hlx,h16]
 · simp only at e2
   rw [hb,Bool.false_and];simp -implicitDefEqProofs (disch:=omega) [e2]
theorem c34 {c:FuncId}{d:D}{x:T}{vs:List WV}(h:H)(hd:snap h d=some x)(hx:Slice x (vs.map varW))(hs:smallW vs)(hm:md c 34 = .pure):callD (cx.at c) (call cx prim) 34 [d] h=some (.t (.bool (varsB vs)),h):=by
 obtain ⟨h',q⟩:=s34 hx hs;exact pureOut_flat (ts:=[x]) cb34 hm (by simp only [allM,hd]) q rfl rfl
def getW (vs:List WV)(nm:ByteArray):Option WV:=vs.find? fun v=>eqS v.1 nm
def getT (vs:List WV)(nm:ByteArray):T:=match getW vs nm with|some v=>valT v.2.1 v.2.2.1 v.2.2.2|none=>valT 0 0 ⟨#[]⟩
theorem find_drop {vs:List WV}{nm:ByteArray}{k:Nat}{v:WV}(hv:vs[k]?=some v):(vs.drop k).find? (fun v=>eqS v.1 nm)=if eqS v.1 nm=true then some v else (vs.drop (k+1)).find? fun v=>eqS v.1 nm:=by
 have hlt:k<vs.length:=by
  apply Classical.byContradiction;intro hn;rw [List.getElem?_eq_none (by omega)] at hv
  cases hv
 rw [List.drop_eq_getElem_cons hlt];rw [List.getElem?_eq_getElem hlt] at hv;rw [Option.some.inj hv,List.find?_cons];cases eqS v.1 nm<;>rfl
abbrev zeroV:AObj:=.row 26 3 [.t (valT 0 0 ⟨#[]⟩)]
theorem s56 {x:T}{vs:List WV}{nm:ByteArray}(hx:Slice x (vs.map varW))(hs:vs.length≤2000000):∃ h',call cx prim 56 [.t x,.t (.str nm)] .empty=some (.tup [.t (getT vs nm),.t (.bool (getW vs nm).isSome)],h'):=by
 rw [call_run (cx:=cx) rfl Tryz.func56 ok56 nd56 rfl (lbe rfl) rfl rfl];have hlx:=fun hh=>hx.len (P:=Tryz.prog) (t:=23) tk23 hh
 rw [List.length_map] at hlx;simp -implicitDefEqProofs (disch:=omega) [];generalize hLp:loopω _ _=L;obtain ⟨x',⟨nn,env,h2⟩,rfl,rfl,hq⟩:=loop_uses hLp vs.length
   (fun k st=>st.n=26∧st.env 0 = .t x∧st.env 1 = .t (.str nm)∧st.env 4 = .ptr 0 0 0 1∧st.env 6 = .t (.int .i64 k)∧st.h=H.empty.push zeroV∧(vs.drop k).find? (fun v=>eqS v.1 nm)=getW vs nm)
   (fun x' st=>st.n=26∧st.env 4 = .ptr 0 0 0 1∧((x' = .exit 0∧getW vs nm=none∧st.h=H.empty.push zeroV)∨(x' = .ret∧∃ v,getW vs nm=some v∧st.env 5 = .t (.bool true)∧st.h=H.empty.push (.row 26 3 [.t (valT v.2.1 v.2.2.1 v.2.2.2)]))))
   (by refine ⟨rfl,?_⟩; simp [getW]) (by
   rintro k ⟨nn,env,h2⟩ hk ⟨rfl,e0,e1,e4,e6,rfl,hb⟩;simp only at e0 e1 e4 e6;rw [LB_run nd56 rfl];by_cases hk':k<vs.length
   · obtain ⟨v,hv⟩:∃ v,vs[k]?=some v:=⟨vs[k],by simp [hk']⟩
     have hxe:x = .slice (vs.map varW):=hx.eq_of_ne (by intro e; have:=congrArg List.length e; simp at this; subst this; simp at hk')
     subst hxe;have hg:(vs.map varW)[k]?=some (varW v):=by rw [List.getElem?_map,hv]; rfl
     have c1:(k:Int)<vs.length:=by omega
     rw [find_drop hv] at hb
     cases he:eqS v.1 nm with
     | true =>
      rw [he,if_pos rfl] at hb;simp -implicitDefEqProofs (disch:=omega) [-List.getElem?_map,e0,e1,e4,e6,hlx,hg,he,Wp_some];exact ⟨v.1,v.2.1,v.2.2.1,v.2.2.2,hb.symm,rfl⟩
     | false =>
      rw [he,if_neg (by simp)] at hb
      simp -implicitDefEqProofs (disch:=omega) [-List.getElem?_map,e0,e1,e4,e6,hlx,hg,he,Wp_some];exact ⟨hk',hb⟩
   · obtain rfl:k=vs.length:=by omega
     rw [List.drop_length] at hb;simp -implicitDefEqProofs (disch:=omega) [e0,e1,e4,e6,hlx,Wp_some];exact hb.symm)
 unfold getT;rcases hq with ⟨e4,hq⟩
 rcases hq with ⟨rfl,hb,rfl⟩|⟨rfl,v,hb,e5,rfl⟩
 · simp only at e4
   rw [hb];simp -implicitDefEqProofs (disch:=omega) [e4]
 · simp only at e4 e5
   rw [hb];simp -implicitDefEqProofs (disch:=omega) [e4,e5]
theorem s54 {x:T}{vs:List WV}{nm:ByteArray}(hx:Slice x (vs.map varW))(hs:vs.length≤2000000):∃ h',call cx prim 54 [.t x,.t (.str nm)] .empty=some (.tup [.t (getT vs nm),.t (.bool (getW vs nm).isSome)],h'):=by
 rw [call_run (cx:=cx) rfl Tryz.func54 ok54 nd54 rfl (lbe rfl) rfl rfl];have hlx:=fun hh=>hx.len (P:=Tryz.prog) (t:=23) tk23 hh
 rw [List.length_map] at hlx;simp -implicitDefEqProofs (disch:=omega) [hlx];generalize hLp:loopω _ _=L;obtain ⟨x',⟨nn,env,h2⟩,rfl,rfl,hq⟩:=loop_uses hLp vs.length
   (fun k st=>st.n=22∧st.env 1 = .t (.str nm)∧st.env 4 = .ptr 0 0 0 1∧st.env 8 = .t x∧st.env 9 = .t (.int .i64 vs.length)∧st.env 10 = .t (.int .i64 k)∧st.h.objs 0=some zeroV∧0<st.h.next∧(vs.drop k).find? (fun v=>eqS v.1 nm)=getW vs nm)
   (fun x' st=>st.n=22∧st.env 4 = .ptr 0 0 0 1∧((x' = .exit 0∧getW vs nm=none∧st.h.objs 0=some zeroV)∨(x' = .ret∧∃ v,getW vs nm=some v∧st.env 5 = .t (.bool true)∧st.h.objs 0=some (.row 26 3 [.t (valT v.2.1 v.2.2.1 v.2.2.2)]))))
   (by refine ⟨rfl,?_⟩; simp [getW]) (by
   rintro k ⟨nn,env,h2⟩ hk ⟨rfl,e1,e4,e8,e9,e10,ho,hn,hb⟩;simp only at e1 e4 e8 e9 e10 ho hn;rw [LB_run nd54 rfl];have n0:¬ (0=h2.next):=by omega
   by_cases hk':k<vs.length
   · obtain ⟨v,hv⟩:∃ v,vs[k]?=some v:=⟨vs[k],by simp [hk']⟩
     have hxe:x = .slice (vs.map varW):=hx.eq_of_ne (by intro e; have:=congrArg List.length e; simp at this; subst this; simp at hk')
     subst hxe;have hg:(vs.map varW)[k]?=some (varW v):=by rw [List.getElem?_map,hv]; rfl
     have c1:(k:Int)<vs.length:=by omega
     rw [find_drop hv] at hb
     cases he:eqS v.1 nm with
     | true =>
      rw [he,if_pos rfl] at hb;simp -implicitDefEqProofs (disch:=omega) [-List.getElem?_map,e1,e4,e8,e9,e10,ho,n0,hg,he,Wp_some];exact ⟨v.1,v.2.1,v.2.2.1,v.2.2.2,hb.symm,rfl,rfl,rfl⟩
     | false =>
      rw [he,if_neg (by simp)] at hb
      simp -implicitDefEqProofs (disch:=omega) [-List.getElem?_map,e1,e4,e8,e9,e10,ho,n0,hg,he,Wp_some];refine ⟨hk',?_⟩;exact hb
   · obtain rfl:k=vs.length:=by omega
     rw [List.drop_length] at hb;simp -implicitDefEqProofs (disch:=omega) [e1,e4,e8,e9,e10,ho,n0,Wp_some];exact hb.symm)
 unfold getT;rcases hq with ⟨e4,hq⟩
 rcases hq with ⟨rfl,hb,ho⟩|⟨rfl,v,hb,e5,ho⟩
 · simp only at e4 ho
   rw [hb];simp -implicitDefEqProofs (disch:=omega) [e4,ho]
 · simp only at e4 e5 ho
   rw [hb];simp -implicitDefEqProofs (disch:=omega) [e4,e5,ho]
end Go.Proofs.YtaldobgfbkllfaaGreatDoor
