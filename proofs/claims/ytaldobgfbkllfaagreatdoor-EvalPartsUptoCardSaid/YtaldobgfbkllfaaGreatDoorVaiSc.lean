import Derived.Test.YtaldobgfbkllfaaGreatDoorVaiSb
import Derived.KernelRfl
import Derived.Test.YtaldobgfbkllfaaGreatDoorVaiSa
set_option linter.unusedSimpArgs false
set_option linter.unusedVariables false
set_option linter.unusedSectionVars false
namespace Go.Proofs.YtaldobgfbkllfaaGreatDoor
open Vai
section
variable [Gl]
theorem hmix:Tryz.prog.follows .mixedOrders=true:=by kernel_rfl
theorem okQ:okAll cx okT=true:=by kernel_rfl
theorem g40OK:G40.OK cx Tryz.prog where
 hf:=Tryz.func40
 hcf:=Tryz.func74
 body:=⟨_,_,_,_,_,_,_,rfl⟩
 cbody:=⟨_,_,_,_,_,_,_,rfl⟩
 ok0:=by kernel_rfl
 ok1:=by kernel_rfl
 ok2:=by kernel_rfl
 place:=by decide
 callable:=by kernel_rfl
 cres:=rfl
theorem a26OK:A26.OK cx Tryz.prog ords26 where
 hf:=Tryz.func26
 body:=⟨_,rfl⟩
 ok1:=by kernel_rfl
 ok2:=by kernel_rfl
 ok3:=by kernel_rfl
 ns:=by kernel_rfl
 ords:=by kernel_rfl
theorem primLe:PLe primQ prim cx:=fun k=>by
 have hc:CLe c0 (call cx prim0):=fun k args h r hh=>callN_call _ _ _ _ (callQ_le okQ _ _ _ _ _ hh)
 by_cases h1:k=40
 · subst h1
   exact .inl ⟨_,_,rfl,rfl,fun args h r hh=>guardA_mono hc iter_loop hh⟩
 · by_cases h2:k=26
   · subst h2
     exact .inl ⟨_,_,rfl,rfl,fun args h r hh=>altA_mono hc iter_loop hh⟩
   · have e1:primQ k=prim0 k:=by simp only [primQ,if_neg h1,if_neg h2]
     have e2:prim k=prim0 k:=by simp only [prim,if_neg h1,if_neg h2]
     cases hp:prim0 k with
     | none=>exact .inr (.inl ⟨by rw [e1,hp],by rw [e2,hp]⟩)
     | some g=>exact .inl ⟨g,g,by rw [e1,hp],by rw [e2,hp],fun _ _ _ h=>h⟩
theorem no26:okFunc (cx.at 26) Tryz.f26=false:=by kernel_rfl
theorem prim0Le:PLe prim0 prim cx:=fun k=>by
 by_cases h1:k=40
 · subst h1
   exact .inl ⟨_,_,rfl,rfl,fun args h r hh=>by cases hh⟩
 · by_cases h2:k=26
   · subst h2
     exact .inr (.inr ⟨rfl,fun fn hf=>by rw [cxP0,Tryz.func26] at hf; cases hf; exact no26⟩)
   · have e2:prim k=prim0 k:=by simp only [prim,if_neg h1,if_neg h2]
     cases hp:prim0 k with
     | none=>exact .inr (.inl ⟨rfl,by rw [e2,hp]⟩)
     | some g=>exact .inl ⟨g,g,rfl,by rw [e2,hp],fun _ _ _ h=>h⟩
end
section
variable [GlY]
theorem prim0OK:PrimOK Tryz.prog prim0:=by
 intro k g hk args h d h' m w vs hr hv hc;unfold prim0 at hk;split at hk
 · rename_i e; subst e; cases hk; exact parse_ok args h d h' m w vs hr hv hc
 · split at hk
   · rename_i e; subst e; cases hk; exact fmt_ok args h d h' m w vs hr hv hc
   · split at hk
     · rename_i e; subst e; cases hk; exact cmp_ok args h d h' m w vs hr hv hc
     · split at hk
       · cases hk; cases hc
       · cases hk
theorem c0OK:CallOK Tryz.prog (call cx prim0):=call_ok cxP0 hmix prim0OK
theorem primOK:PrimOK Tryz.prog prim:=by
 intro k g hk args h d h' m w vs hr hv hc;unfold prim at hk;split at hk
 · rename_i e; subst e; cases hk; exact guard_sound cxP0 hmix c0OK loop_ok g40OK hr hv hc
 · split at hk
   · rename_i e; subst e; cases hk; exact alt_sound cxP0 hmix c0OK loop_ok a26OK hr hv hc
   · exact prim0OK k g hk args h d h' m w vs hr hv hc
end
end Go.Proofs.YtaldobgfbkllfaaGreatDoor

namespace Go.Proofs.YtaldobgfbkllfaaGreatDoor
open Vai
variable [Gl]
set_option maxHeartbeats 0
set_option maxRecDepth 100000
abbrev vP (n:ByteArray)(at_:Int):T:=.agg [.int .i64 2,.int .i64 0,.int .i64 0,.int .i64 0,.int .i64 0,.int .i64 0,.str ⟨#[]⟩,.str n,.int .i64 at_]
abbrev bP (k a b at_:Int):T:=.agg [.int .i64 k,.int .i64 a,.int .i64 b,.int .i64 0,.int .i64 0,.int .i64 0,.str ⟨#[]⟩,.str ⟨#[]⟩,.int .i64 at_]
abbrev dc2 (a b:ByteArray)(k:Int):T:=.slice [.agg [.str a,.int .i64 k],.agg [.str b,.int .i64 k]]
end Go.Proofs.YtaldobgfbkllfaaGreatDoor

namespace Go.Proofs.YtaldobgfbkllfaaGreatDoor
open Vai
abbrev valT (k n:Int)(s:ByteArray):T:=.agg [.int .i64 k,.int .i64 n,.str s]
def mayV (k n:Int)(s:ByteArray):Bool:=if k=1 then eqS s ⟨#[]⟩ else if k=2 then eqS s ⟨#[]⟩&&(eqI n 0||eqI n 1) else if k=3 then eqI n 0&&decide (s.size≤64)&&chs s 0 else false
end Go.Proofs.YtaldobgfbkllfaaGreatDoor

namespace Go.Proofs.YtaldobgfbkllfaaGreatDoor.P0
open Vai
variable [Gl]
set_option maxHeartbeats 0
theorem s168 {r:Int}{h:H}{id:Nat}(sh:Int)(ho:h.objs id=some (.row 21 1 [.t (.int .i32 r)]))(h0:0≤r)(h1:r≤1114111)(hs:sh=0∨sh=6∨sh=12):call cx prim0 168 [.t (.int .i64 sh),.ptr id 0 0 1] h=some (.t (.int .u8 (128+r/2 ^ sh.toNat%64)),h):=by
 rw [call_run (cx:=cx) rfl Tryz.func168 ok168 nd168 rfl (lbe rfl) rfl rfl];rcases hs with rfl|rfl|rfl
 · simp -implicitDefEqProofs (disch:=omega) [ho,and63,or128,wrap_u8_mod]
 · simp -implicitDefEqProofs (disch:=omega) [ho,and63,or128,wrap_u8_mod]
   rw [fdiv_pos' (by omega)]
 · simp -implicitDefEqProofs (disch:=omega) [ho,and63,or128,wrap_u8_mod]
   rw [fdiv_pos' (by omega)]
theorem c168 {c:FuncId}{r:Int}{h:H}{id:Nat}(sh:Int)(ho:h.objs id=some (.row 21 1 [.t (.int .i32 r)]))(h0:0≤r)(h1:r≤1114111)(hs:sh=0∨sh=6∨sh=12):callD (cx.at c) (call cx prim0) 168 [.t (.int .i64 sh),.ptr id 0 0 1] h=some (.t (.int .u8 (128+r/2 ^ sh.toNat%64)),h):=keepT cb168 (by simp [md]) (s168 sh ho h0 h1 hs)
theorem s153 (r:Int):∃ h',call cx prim0 153 [.t (.int .i32 r)] .empty=some (.t (.str ⟨(putL r).toArray⟩),h'):=by
 rw [call_run (cx:=cx) rfl Tryz.func153 ok153 nd153 rfl (lbe rfl) rfl rfl];unfold putL;have d1:r.fdiv 64=r/64:=fdiv_pos' (by omega)
 have d2:r.fdiv 4096=r/4096:=fdiv_pos' (by omega)
 have d3:r.fdiv 262144=r/262144:=fdiv_pos' (by omega)
 by_cases h1:r<0
 · simp -implicitDefEqProofs (disch:=omega) [h1]
 by_cases h2:1114111<r
 · simp -implicitDefEqProofs (disch:=omega) [h1,h2]
 by_cases h3:55296≤r
 · have h4:¬ r<128:=by omega
   by_cases h3':r≤57343
   · simp -implicitDefEqProofs (disch:=omega) [h1,h2,h3,h3']
   · have h5:¬ r<2048:=by omega
     by_cases h6:r<65536
     · simp -implicitDefEqProofs (disch:=first|omega|simp) [h1,h2,h3,h3',h4,h5,h6,wrap_u8_mod,buildSliceD,convD,List.replicate,byteOfT,or224,d2,c168 (r:=r)]
       exact ⟨of_u8 (by omega),of_u8 (by omega),of_u8 (by omega)⟩
     · simp -implicitDefEqProofs (disch:=first|omega|simp) [h1,h2,h3,h3',h4,h5,h6,wrap_u8_mod,buildSliceD,convD,List.replicate,byteOfT,or240,d3,c168 (r:=r)]
       exact ⟨of_u8 (by omega),of_u8 (by omega),of_u8 (by omega),of_u8 (by omega)⟩
 by_cases h4:r<128
 · simp -implicitDefEqProofs (disch:=omega) [h1,h2,h3,h4,wrap_u8_mod,buildSliceD,convD,List.replicate,byteOfT]
   exact of_u8 (by omega)
 by_cases h5:r<2048
 · simp -implicitDefEqProofs (disch:=first|omega|simp) [h1,h2,h3,h4,h5,wrap_u8_mod,buildSliceD,convD,List.replicate,byteOfT,or192,d1,c168 (r:=r)]
   exact ⟨of_u8 (by omega),of_u8 (by omega)⟩
 · have h6:r<65536:=by omega
   simp -implicitDefEqProofs (disch:=first|omega|simp) [h1,h2,h3,h4,h5,h6,wrap_u8_mod,buildSliceD,convD,List.replicate,byteOfT,or224,d2,c168 (r:=r)]
   exact ⟨of_u8 (by omega),of_u8 (by omega),of_u8 (by omega)⟩
theorem c153 {c:FuncId}(r:Int)(h:H)(hm:md c 153 = .pure):callD (cx.at c) (call cx prim0) 153 [.t (.int .i32 r)] h=some (.t (.str ⟨(putL r).toArray⟩),h):=by
 obtain ⟨h',q⟩:=s153 r;exact pureT cb153 hm q rfl rfl
theorem s159 {r:Int}(sh n:Int)(h0:0≤r)(h1:r≤1114111)(hs:(sh=6∧n=5)∨(sh=0∧n=6)∨(sh=12∧n=4)∨(sh=6∧n=6)∨(sh=18∧n=3)∨(sh=12∧n=6)):call cx prim0 159 [.t (.int .i32 r),.t (.int .u64 sh),.t (.int .u64 n)] .empty=some (.t (.int .u8 (r/2 ^ sh.toNat%2 ^ n.toNat)),.empty):=by
 rw [call_run (cx:=cx) rfl Tryz.func159 ok159 nd159 rfl (lbe rfl) rfl rfl];have wr:IntKind.u32.wrap r=r:=by
  have e:(2:Int) ^ (32:Nat)=4294967296:=by decide
  simp only [IntKind.wrap,IntKind.bits,IntKind.signed,Bool.false_and,e];simp;omega
 have wc:∀ c:Int,0≤c→c<4294967296→IntKind.u32.wrap c=c:=fun c h0 h1=>by
  have e:(2:Int) ^ (32:Nat)=4294967296:=by decide
  simp only [IntKind.wrap,IntKind.bits,IntKind.signed,Bool.false_and,e];simp;omega
 rcases hs with ⟨rfl,rfl⟩|⟨rfl,rfl⟩|⟨rfl,rfl⟩|⟨rfl,rfl⟩|⟨rfl,rfl⟩|⟨rfl,rfl⟩
 all_goals simp -implicitDefEqProofs (disch:=omega) [wr,wc,wrap_u8_mod]
 all_goals first|rw [fdiv_pos' (by omega),tmod_pos' (by omega)]|rw [tmod_pos' (by omega)]
 all_goals omega
theorem c159 {c:FuncId}{r:Int}(sh n:Int)(h:H)(h0:0≤r)(h1:r≤1114111)(hs:(sh=6∧n=5)∨(sh=0∧n=6)∨(sh=12∧n=4)∨(sh=6∧n=6)∨(sh=18∧n=3)∨(sh=12∧n=6))(hm:md c 159 = .pure):callD (cx.at c) (call cx prim0) 159 [.t (.int .i32 r),.t (.int .u64 sh),.t (.int .u64 n)] h=some (.t (.int .u8 (r/2 ^ sh.toNat%2 ^ n.toNat)),h):=pureT cb159 hm (s159 sh n h0 h1 hs) rfl rfl
theorem s132 (r:Int):call cx prim0 132 [.t (.int .i32 r)] .empty=some (.t (.bool (decide (0≤r∧r≤1114111∧(r<55296∨57343<r)))),.empty):=by
 rw [call_run (cx:=cx) rfl Tryz.func132 ok132 nd132 rfl (lbe rfl) rfl rfl];by_cases h1:0≤r
 · by_cases h2:r≤1114111
   · by_cases h3:r<55296
     · simp -implicitDefEqProofs (disch:=omega) [h1,h2,h3]
     · simp -implicitDefEqProofs (disch:=omega) [h1,h2,h3,ltI]
   · simp -implicitDefEqProofs (disch:=omega) [h1,h2]
 · simp -implicitDefEqProofs (disch:=omega) [h1]
theorem c132 {c:FuncId}(r:Int)(h:H)(hm:md c 132 = .pure):callD (cx.at c) (call cx prim0) 132 [.t (.int .i32 r)] h=some (.t (.bool (decide (0≤r∧r≤1114111∧(r<55296∨57343<r)))),h):=pureT cb132 hm (s132 r) rfl rfl
theorem s131 (r:Int):call cx prim0 131 [.t (.int .i32 r)] .empty=some (nrow 5 1 (ub (putL r)) .empty):=by
 rw [call_run (cx:=cx) rfl Tryz.func131 ok131 nd131 rfl (lbe rfl) rfl rfl];have k:=fun h=>c132 (c:=131) r h rfl
 by_cases hn:r<0∨1114111<r∨(55296≤r∧r≤57343)
 · have:decide (0≤r∧r≤1114111∧(r<55296∨57343<r))=false:=by simp; omega
   rw [this] at k;have e:putL r=[]:=by unfold putL; rw [if_pos hn]
   rw [e];simp -implicitDefEqProofs (disch:=omega) [k,nrow,ub]
 have:decide (0≤r∧r≤1114111∧(r<55296∨57343<r))=true:=by simp; omega
 rw [this] at k;have g:=fun sh n h hs=>c159 (c:=131) (r:=r) sh n h (by omega) (by omega) hs rfl
 by_cases h4:r<128
 · have e:ub (putL r)=[.int .u8 r]:=by unfold putL; rw [if_neg hn,if_pos h4]; simp only [ub,List.map_cons,List.map_nil]; rw [u8_val (by omega) (by omega)]
   rw [e];simp -implicitDefEqProofs (disch:=omega) [h4,k,wrap_u8_mod,buildSliceD,List.replicate,nrow]
 by_cases h5:r<2048
 · have e:ub (putL r)=[.int .u8 (192+r/64),.int .u8 (128+r%64)]:=by
    unfold putL; rw [if_neg hn,if_neg h4,if_pos h5]; simp only [ub,List.map_cons,List.map_nil]; rw [u8_val (by omega) (by omega),u8_val (by omega) (by omega)]
   have w1:IntKind.u8.wrap (192+r/64%32)=192+r/64:=by rw [wrap_u8_mod]; omega
   have w2:IntKind.u8.wrap (128+r%64)=128+r%64:=by rw [wrap_u8_mod]; omega
   rw [e];simp -implicitDefEqProofs (disch:=first|omega|simp) [h4,h5,k,g,w1,w2,buildSliceD,List.replicate,nrow]
 by_cases h6:r<65536
 · have e:ub (putL r)=[.int .u8 (224+r/4096),.int .u8 (128+r/64%64),.int .u8 (128+r%64)]:=by
    unfold putL; rw [if_neg hn,if_neg h4,if_neg h5,if_pos h6]; simp only [ub,List.map_cons,List.map_nil]; rw [u8_val (by omega) (by omega),u8_val (by omega) (by omega),u8_val (by omega) (by omega)]
   have w1:IntKind.u8.wrap (224+r/4096%16)=224+r/4096:=by rw [wrap_u8_mod]; omega
   have w2:∀ x:Int,IntKind.u8.wrap (128+x%64)=128+x%64:=fun x=>by rw [wrap_u8_mod]; omega
   rw [e];simp -implicitDefEqProofs (disch:=first|omega|simp) [h4,h5,h6,k,g,w1,w2,buildSliceD,List.replicate,nrow]
 · have e:ub (putL r)=[.int .u8 (240+r/262144),.int .u8 (128+r/4096%64),.int .u8 (128+r/64%64),.int .u8 (128+r%64)]:=by
    unfold putL; rw [if_neg hn,if_neg h4,if_neg h5,if_neg h6]; simp only [ub,List.map_cons,List.map_nil]; rw [u8_val (by omega) (by omega),u8_val (by omega) (by omega),u8_val (by omega) (by omega),u8_val (by omega) (by omega)]
   have w1:IntKind.u8.wrap (240+r/262144%8)=240+r/262144:=by rw [wrap_u8_mod]; omega
   have w2:∀ x:Int,IntKind.u8.wrap (128+x%64)=128+x%64:=fun x=>by rw [wrap_u8_mod]; omega
   rw [e];simp -implicitDefEqProofs (disch:=first|omega|simp) [h4,h5,h6,k,g,w1,w2,buildSliceD,List.replicate,nrow]
theorem c131 {c:FuncId}(r:Int)(h:H)(hm:md c 131 = .pure):callD (cx.at c) (call cx prim0) 131 [.t (.int .i32 r)] h=some (.t (sl (ub (putL r))),h):=pureNew cb131 hm (s131 r) rfl
theorem s82 (r:Int):call cx prim0 82 [.t (.int .i32 r)] .empty=some (.t (.bool (charB r)),.empty):=by
 rw [call_run (cx:=cx) rfl Tryz.func82 ok82 nd82 rfl (lbe rfl) rfl rfl];have k:=fun h=>c132 (c:=82) r h rfl
 by_cases h1:0≤r∧r≤1114111∧(r<55296∨57343<r)
 · have e:decide (0≤r∧r≤1114111∧(r<55296∨57343<r))=true:=decide_eq_true h1
   rw [e] at k;by_cases h2:r=65534
   · subst h2; simp -implicitDefEqProofs (disch:=omega) [k,charB]
   by_cases h3:r=65535
   · subst h3; simp -implicitDefEqProofs (disch:=omega) [k,charB]
   by_cases h4:32≤r
   · simp -implicitDefEqProofs (disch:=omega) [k,h2,h3,h4,charB]; omega
   by_cases h5:r=9
   · subst h5; simp -implicitDefEqProofs (disch:=omega) [k,charB]
   by_cases h6:r=10
   · subst h6; simp -implicitDefEqProofs (disch:=omega) [k,charB]
   by_cases h7:r=13
   · subst h7; simp -implicitDefEqProofs (disch:=omega) [k,charB]
   · simp -implicitDefEqProofs (disch:=omega) [k,h2,h3,h4,h5,h6,h7,charB]
 · have e:decide (0≤r∧r≤1114111∧(r<55296∨57343<r))=false:=decide_eq_false h1
   rw [e] at k;simp -implicitDefEqProofs (disch:=omega) [k,charB]; omega
theorem c82 {c:FuncId}(r:Int)(h:H)(hm:md c 82 = .pure):callD (cx.at c) (call cx prim0) 82 [.t (.int .i32 r)] h=some (.t (.bool (charB r)),h):=pureT cb82 hm (s82 r) rfl rfl
theorem s142 (r:Int):call cx prim0 142 [.t (.int .i32 r)] .empty=some (.t (.bool (charB r)),.empty):=by
 rw [call_run (cx:=cx) rfl Tryz.func142 ok142 nd142 rfl (lbe rfl) rfl rfl];have k:=fun h=>c153 (c:=142) r h rfl
 have kn:eqS ⟨(putL r).toArray⟩ ⟨#[]⟩=decide (¬ (0≤r∧r≤1114111∧(r<55296∨57343<r))):=by
   unfold eqS;have:((⟨(putL r).toArray⟩:ByteArray)=⟨#[]⟩)↔putL r=[]:=ba_eq (b:=[]);simp only [this,putL_ne]
 by_cases h1:0≤r∧r≤1114111∧(r<55296∨57343<r)
 · rw [decide_eq_false (fun h=>h h1)] at kn
   by_cases h5:r=9
   · subst h5; simp -implicitDefEqProofs (disch:=omega) [k,kn,charB]
   by_cases h6:r=10
   · subst h6; simp -implicitDefEqProofs (disch:=omega) [k,kn,charB]
   by_cases h7:r=13
   · subst h7; simp -implicitDefEqProofs (disch:=omega) [k,kn,charB]
   by_cases h4:32≤r
   · by_cases h2:r=65534
     · subst h2; simp -implicitDefEqProofs (disch:=omega) [k,kn,charB]
     by_cases h3:r=65535
     · subst h3; simp -implicitDefEqProofs (disch:=omega) [k,kn,charB]
     simp -implicitDefEqProofs (disch:=omega) [k,kn,h2,h3,h4,h5,h6,h7,charB]; omega
   · simp -implicitDefEqProofs (disch:=omega) [k,kn,h4,h5,h6,h7,charB]
 · rw [decide_eq_true h1] at kn
   have hc:charB r=false:=by unfold charB; simp; omega
   rw [hc];by_cases h4:32≤r
   · simp -implicitDefEqProofs (disch:=omega) [k,kn,h4,show ¬ r=9 by omega,show ¬ r=10 by omega,show ¬ r=13 by omega]
   · simp -implicitDefEqProofs (disch:=omega) [k,kn,h4,show ¬ r=9 by omega,show ¬ r=10 by omega,show ¬ r=13 by omega]
theorem c142 {c:FuncId}(r:Int)(h:H)(hm:md c 142 = .pure):callD (cx.at c) (call cx prim0) 142 [.t (.int .i32 r)] h=some (.t (.bool (charB r)),h):=pureT cb142 hm (s142 r) rfl rfl
theorem l116 (cs:List UInt8)(hL:cs.length≤3)(r0:Nat)(hr:r0<32){st:St}{r:CR}{h:H}{a b c:D}(hLp:loopω (LB cx prim0 116 Tryz.f116 1) st=r)(en:st.n=84)(eh:st.h=h)(e0:st.env 0=a)(e1:st.env 1=b)(e7:st.env 7=c)(e61:st.env 61 = .t (.slice (ub cs)))(e62:st.env 62 = .t (.int .i64 cs.length))(e63:st.env 63 = .t (.int .i64 0))(e6:st.env 6 = .t (.int .i32 r0)) :
   ∃ x st',r=some (x,st')∧st'.n=84∧st'.h=h∧st'.env 0=a∧st'.env 1=b∧st'.env 7=c ∧
     (if cs.all (fun c=>contB c.toNat)=true then x = .exit 1∧st'.env 6 = .t (.int .i32 (accR r0 cs)) else x = .ret∧st'.env 4 = .t (.int .i32 0)∧st'.env 5 = .t (.int .i64 0)):=by
 refine loop_uses hLp cs.length (fun k st=>st.n=84∧st.h=h∧st.env 0=a∧st.env 1=b∧st.env 7=c∧st.env 61 = .t (.slice (ub cs))∧st.env 62 = .t (.int .i64 cs.length)∧st.env 63 = .t (.int .i64 k)∧st.env 6 = .t (.int .i32 (accR r0 (cs.take k)))∧(cs.take k).all (fun c=>contB c.toNat)=true) _ ⟨en,eh,e0,e1,e7,e61,e62,e63,by simpa [accR] using e6,rfl⟩ ?_
 rintro k ⟨nn,env,h2⟩ hk ⟨rfl,rfl,e0,e1,e7,e61,e62,e63,e6,hall⟩;simp only at e0 e1 e7 e61 e62 e63 e6;rw [LB_run nd116 rfl];by_cases hk':k<cs.length
 · have hget:(ub cs)[k]?=some (.int .u8 (cs[k].toNat)):=by rw [ub_get,List.getElem?_eq_getElem hk']; rfl
   have h8:=cs[k].toNat_lt;have hacc:accR r0 (cs.take k)<32*64 ^ 2:=by
     have h1:=accR_lt r0 (cs.take k);have h2:(cs.take k).length=k:=by simp; omega
     rw [h2] at h1;have h3:(64:Nat) ^ k≤64 ^ 2:=Nat.pow_le_pow_right (by omega) (by omega)
     exact Nat.lt_of_lt_of_le h1 (Nat.mul_le_mul (by omega) h3)
   have h64:(32*64 ^ 2:Nat)=131072:=by decide
   rw [h64] at hacc;have hsnoc:accR r0 (cs.take (k+1))=accR r0 (cs.take k)*64+cs[k].toNat%64:=by rw [←accR_snoc]; simp
   have hs2:(cs.take (k+1)).all (fun c=>contB c.toNat)=contB cs[k].toNat:=by
     rw [show cs.take (k+1)=cs.take k ++ [cs[k]] by simp,List.all_append,hall]; simp
   have h6:intBitsT .or .i32 ((accR r0 (cs.take k):Int)*64) ((cs[k].toNat%64:Nat):Int)=some ((accR r0 (cs.take k):Int)*64+(cs[k].toNat%64:Nat)):=or6 (by omega) (by omega)
   have hw:IntKind.i32.wrap ((accR r0 (cs.take k):Int)*64)=(accR r0 (cs.take k):Int)*64:=wrap_i32 (by omega) (by omega)
   have hc1:((cs[k].toNat%64:Nat):Int)=(cs[k].toNat:Int)%64:=by omega
   rw [hc1] at h6;by_cases hc:contB cs[k].toNat=true
   · have hcc:(cs[k].toNat:Int)/64*64=128:=by simp only [contB,beq_iff_eq] at hc; omega
     simp -implicitDefEqProofs (disch:=omega) [e0,e1,e7,e61,e62,e63,e6,hget,and192,and63,hcc,h6,hw,hk',Wp_some];exact ⟨by rw [hsnoc]; omega,by simpa using hs2.trans hc⟩
   · have hcc:¬ (cs[k].toNat:Int)/64*64=128:=by simp only [contB,beq_iff_eq] at hc; omega
     have hnall:¬ cs.all (fun c=>contB c.toNat)=true:=fun h=>hc (by rw [List.all_eq_true] at h; exact h _ (List.getElem_mem hk'))
     simp -implicitDefEqProofs (disch:=omega) [e0,e1,e7,e61,e62,e63,e6,hget,and192,and63,hcc,h6,hw,hk',Wp_some,hnall]
 · obtain rfl:k=cs.length:=by omega
   rw [List.take_length] at e6 hall;simp -implicitDefEqProofs (disch:=omega) [e0,e1,e7,e61,e62,e63,e6,hall,Wp_some]
theorem sl_str {s:ByteArray}{a b:Int}(h:H)(h0:0≤a)(h1:a≤b)(h2:b≤s.size):sliceD Tryz.prog h 9 (.t (.str s)) (some (.t (.int .i64 a))) (some (.t (.int .i64 b))) none=some (.t (.str (s.extract a.toNat b.toNat))):=by
 simp [sliceD,h0,h1,h2]
theorem s116 (s:ByteArray)(i:Nat)(hs:s.size≤1000000000):∃ h',call cx prim0 116 [.t (.str s),.t (.int .i64 i)] .empty=some (.tup [.t (.int .i32 (nx s i).1),.t (.int .i64 (nx s i).2)],h'):=by
 rw [call_run (cx:=cx) rfl Tryz.func116 ok116 nd116 rfl (lbe rfl) rfl rfl];by_cases hi:s.size≤i
 · have e:nx s i=(0,0):=by unfold nx; rw [if_pos hi]
   rw [e];simp -implicitDefEqProofs (disch:=omega) []
 obtain ⟨b,hb,hbt⟩:=bt_get (s:=s) (i:=i) (by omega)
 have hb8:=b.toNat_lt;by_cases c1:b.toNat<128
 · have e:nx s i=((b.toNat:Int),1):=by unfold nx; rw [if_neg hi]; simp only [hbt]; rw [if_pos c1]
   rw [e];simp -implicitDefEqProofs (disch:=omega) [hb,c1]
 by_cases c2:b.toNat<192
 · have e:nx s i=(0,0):=by unfold nx; rw [if_neg hi]; simp only [hbt]; rw [if_neg c1,if_pos c2]
   rw [e];simp -implicitDefEqProofs (disch:=omega) [hb,c1,c2]
 by_cases c3:b.toNat<224
 · have:192≤bt s i∧bt s i<224:=by omega
   have e:=nx_multi (s:=s) (i:=i) (n:=2) (r0:=bt s i%32) (by omega) (by omega)
   by_cases hm:i+2≤s.size
   · have hcl:((s.data.toList.drop (i+1)).take 1).length=1:=by simp; omega
     have exb:bytesT (s.extract (i+1) (i+1+1))=ub ((s.data.toList.drop (i+1)).take 1):=by rw [ub_bytes,extract_bytes]
     have i1:((i:Int)+1).toNat=i+1:=by omega
     have i2:((i:Int)+2).toNat=i+1+1:=by omega
     simp only [show 2-1=1 from rfl,hm,true_and] at e
     have lemL:=fun (st:St) (r:CR) (h:H)=>l116 (st:=st) (r:=r) (h:=h) ((s.data.toList.drop (i+1)).take 1) (by omega) (bt s i%32) (by omega) (a:=.t (.str s)) (b:=.t (.int .i64 i)) (c:=.t (.int .i64 2))
     generalize ((s.data.toList.drop (i+1)).take 1)=cs at hcl exb e lemL;have hr0:(((bt s i%32:Nat)):Int)=(b.toNat:Int)%32:=by omega
     rw [hr0] at lemL;simp -implicitDefEqProofs (disch:=omega) [hb,c1,c2,c3,and31,sl_str,i1,i2,exb,ub_len,hcl];generalize hLp:loopω _ _=L;obtain ⟨x,st',rfl,q1,q2,q3,q4,q5,q6⟩:=lemL _ _ _ hLp rfl rfl (by simp) (by simp) (by simp) (by simp) (by simp [hcl]) (by simp) (by simp)
     obtain ⟨nn,env,h2⟩:=st';simp only at q1 q2 q3 q4 q5 q6;subst q1 q2;by_cases hall:cs.all (fun c=>contB c.toNat)=true
     · rw [if_pos hall] at q6
       obtain ⟨rfl,q6⟩:=q6;have k:=fun h=>c153 (c:=116) (accR (bt s i%32) cs) h rfl
       have hsz:(⟨(putL (accR (bt s i%32) cs)).toArray⟩:ByteArray).size=(putL (accR (bt s i%32) cs)).length:=by simp [ByteArray.size]
       by_cases hp:(putL (accR (bt s i%32) cs)).length=2
       · rw [if_pos ⟨hall,hp⟩] at e
         rw [e];simp -implicitDefEqProofs (disch:=omega) [q3,q4,q5,q6,k,hsz,hp]
       · rw [if_neg (fun h=>hp h.2)] at e
         rw [e];have hp':eqI ((putL (accR (bt s i%32) cs)).length:Int) 2=false:=eqI_false (by omega)
         simp -implicitDefEqProofs (disch:=omega) [q3,q4,q5,q6,k,hsz,hp']
     · rw [if_neg hall] at q6
       obtain ⟨rfl,q6,q7⟩:=q6;rw [if_neg (fun h=>hall h.1)] at e
       rw [e];simp -implicitDefEqProofs (disch:=omega) [q6,q7]
   · rw [if_neg (fun h=>hm h.1)] at e
     rw [e];simp -implicitDefEqProofs (disch:=omega) [hb,c1,c2,c3,and31]
 by_cases c4:b.toNat<240
 · have:224≤bt s i∧bt s i<240:=by omega
   have e:=nx_multi (s:=s) (i:=i) (n:=3) (r0:=bt s i%16) (by omega) (by omega)
   by_cases hm:i+3≤s.size
   · have hcl:((s.data.toList.drop (i+1)).take 2).length=2:=by simp; omega
     have exb:bytesT (s.extract (i+1) (i+1+2))=ub ((s.data.toList.drop (i+1)).take 2):=by rw [ub_bytes,extract_bytes]
     have i1:((i:Int)+1).toNat=i+1:=by omega
     have i2:((i:Int)+3).toNat=i+1+2:=by omega
     simp only [show 3-1=2 from rfl,hm,true_and] at e
     have lemL:=fun (st:St) (r:CR) (h:H)=>l116 (st:=st) (r:=r) (h:=h) ((s.data.toList.drop (i+1)).take 2) (by omega) (bt s i%16) (by omega) (a:=.t (.str s)) (b:=.t (.int .i64 i)) (c:=.t (.int .i64 3))
     generalize ((s.data.toList.drop (i+1)).take 2)=cs at hcl exb e lemL;have hr0:(((bt s i%16:Nat)):Int)=(b.toNat:Int)%16:=by omega
     rw [hr0] at lemL;simp -implicitDefEqProofs (disch:=omega) [hb,c1,c2,c3,c4,and15,sl_str,i1,i2,exb,ub_len,hcl];generalize hLp:loopω _ _=L;obtain ⟨x,st',rfl,q1,q2,q3,q4,q5,q6⟩:=lemL _ _ _ hLp rfl rfl (by simp) (by simp) (by simp) (by simp) (by simp [hcl]) (by simp) (by simp)
     obtain ⟨nn,env,h2⟩:=st';simp only at q1 q2 q3 q4 q5 q6;subst q1 q2;by_cases hall:cs.all (fun c=>contB c.toNat)=true
     · rw [if_pos hall] at q6
       obtain ⟨rfl,q6⟩:=q6;have k:=fun h=>c153 (c:=116) (accR (bt s i%16) cs) h rfl
       have hsz:(⟨(putL (accR (bt s i%16) cs)).toArray⟩:ByteArray).size=(putL (accR (bt s i%16) cs)).length:=by simp [ByteArray.size]
       by_cases hp:(putL (accR (bt s i%16) cs)).length=3
       · rw [if_pos ⟨hall,hp⟩] at e
         rw [e];simp -implicitDefEqProofs (disch:=omega) [q3,q4,q5,q6,k,hsz,hp]
       · rw [if_neg (fun h=>hp h.2)] at e
         rw [e];have hp':eqI ((putL (accR (bt s i%16) cs)).length:Int) 3=false:=eqI_false (by omega)
         simp -implicitDefEqProofs (disch:=omega) [q3,q4,q5,q6,k,hsz,hp']
     · rw [if_neg hall] at q6
       obtain ⟨rfl,q6,q7⟩:=q6;rw [if_neg (fun h=>hall h.1)] at e
       rw [e];simp -implicitDefEqProofs (disch:=omega) [q6,q7]
   · rw [if_neg (fun h=>hm h.1)] at e
     rw [e];simp -implicitDefEqProofs (disch:=omega) [hb,c1,c2,c3,c4,and15]
 by_cases c5:b.toNat<248
 · have:240≤bt s i∧bt s i<248:=by omega
   have e:=nx_multi (s:=s) (i:=i) (n:=4) (r0:=bt s i%8) (by omega) (by omega)
   by_cases hm:i+4≤s.size
   · have hcl:((s.data.toList.drop (i+1)).take 3).length=3:=by simp; omega
     have exb:bytesT (s.extract (i+1) (i+1+3))=ub ((s.data.toList.drop (i+1)).take 3):=by rw [ub_bytes,extract_bytes]
     have i1:((i:Int)+1).toNat=i+1:=by omega
     have i2:((i:Int)+4).toNat=i+1+3:=by omega
     simp only [show 4-1=3 from rfl,hm,true_and] at e
     have lemL:=fun (st:St) (r:CR) (h:H)=>l116 (st:=st) (r:=r) (h:=h) ((s.data.toList.drop (i+1)).take 3) (by omega) (bt s i%8) (by omega) (a:=.t (.str s)) (b:=.t (.int .i64 i)) (c:=.t (.int .i64 4))
     generalize ((s.data.toList.drop (i+1)).take 3)=cs at hcl exb e lemL;have hr0:(((bt s i%8:Nat)):Int)=(b.toNat:Int)%8:=by omega
     rw [hr0] at lemL;simp -implicitDefEqProofs (disch:=omega) [hb,c1,c2,c3,c4,c5,and7,sl_str,i1,i2,exb,ub_len,hcl];generalize hLp:loopω _ _=L;obtain ⟨x,st',rfl,q1,q2,q3,q4,q5,q6⟩:=lemL _ _ _ hLp rfl rfl (by simp) (by simp) (by simp) (by simp) (by simp [hcl]) (by simp) (by simp)
     obtain ⟨nn,env,h2⟩:=st';simp only at q1 q2 q3 q4 q5 q6;subst q1 q2;by_cases hall:cs.all (fun c=>contB c.toNat)=true
     · rw [if_pos hall] at q6
       obtain ⟨rfl,q6⟩:=q6;have k:=fun h=>c153 (c:=116) (accR (bt s i%8) cs) h rfl
       have hsz:(⟨(putL (accR (bt s i%8) cs)).toArray⟩:ByteArray).size=(putL (accR (bt s i%8) cs)).length:=by simp [ByteArray.size]
       by_cases hp:(putL (accR (bt s i%8) cs)).length=4
       · rw [if_pos ⟨hall,hp⟩] at e
         rw [e];simp -implicitDefEqProofs (disch:=omega) [q3,q4,q5,q6,k,hsz,hp]
       · rw [if_neg (fun h=>hp h.2)] at e
         rw [e];have hp':eqI ((putL (accR (bt s i%8) cs)).length:Int) 4=false:=eqI_false (by omega)
         simp -implicitDefEqProofs (disch:=omega) [q3,q4,q5,q6,k,hsz,hp']
     · rw [if_neg hall] at q6
       obtain ⟨rfl,q6,q7⟩:=q6;rw [if_neg (fun h=>hall h.1)] at e
       rw [e];simp -implicitDefEqProofs (disch:=omega) [q6,q7]
   · rw [if_neg (fun h=>hm h.1)] at e
     rw [e];simp -implicitDefEqProofs (disch:=omega) [hb,c1,c2,c3,c4,c5,and7]
 · have e:nx s i=(0,0):=by unfold nx; rw [if_neg hi]; simp only [hbt]; rw [if_neg c1,if_neg c2,if_neg c3,if_neg c4,if_neg c5]
   rw [e];simp -implicitDefEqProofs (disch:=omega) [hb,c1,c2,c3,c4,c5]
theorem c116 {c:FuncId}(s:ByteArray)(i:Nat)(h:H)(hs:s.size≤1000000000)(hm:md c 116 = .pure):callD (cx.at c) (call cx prim0) 116 [.t (.str s),.t (.int .i64 i)] h=some (.tup [.t (.int .i32 (nx s i).1),.t (.int .i64 (nx s i).2)],h):=by
 obtain ⟨h',q⟩:=s116 s i hs;exact pureT cb116 hm q (by simp [snapOut]) rfl
theorem s70 (s:ByteArray)(hs:s.size≤1000000000):∃ h',call cx prim0 70 [.t (.str s)] .empty=some (.t (.int .i64 (bad s 0)),h'):=by
 rw [call_run (cx:=cx) rfl Tryz.func70 ok70 nd70 rfl (lbe rfl) rfl rfl];simp -implicitDefEqProofs (disch:=omega) [];generalize hLp:loopω _ _=L;obtain ⟨x,⟨nn,env,h2⟩,rfl,rfl,hx⟩:=loop_uses hLp s.size
   (fun k st=>st.n=22∧∃ i:Nat,k≤i∧i≤s.size∧st.env 0 = .t (.str s)∧st.env 3 = .t (.int .i64 i)∧bad s i=bad s 0)
   (fun x st=>st.n=22∧((x = .exit 0∧bad s 0 = -1)∨(x = .ret∧st.env 2 = .t (.int .i64 (bad s 0)))))
   (by refine ⟨rfl,0,?_⟩; simp) (by
   rintro k ⟨nn,env,h2⟩ hk ⟨rfl,i,hki,his,e0,e3,hb⟩;simp only at e0 e3;rw [LB_run nd70 rfl];by_cases hi:i<s.size
   · have q:=fun h=>c116 (c:=70) s i h hs rfl
     have hle:=nx_le hi;rw [bad,if_neg (by omega)] at hb
     by_cases hn:(nx s i).2=0
     · rw [if_pos hn] at hb
       simp -implicitDefEqProofs (disch:=omega) [e0,e3,q,hn,Wp_some];exact hb
     · rw [if_neg hn] at hb
       have hn':eqI ((nx s i).2:Int) 0=false:=eqI_false (by omega)
       simp -implicitDefEqProofs (disch:=omega) [e0,e3,q,hn',Wp_some];exact ⟨by omega,i+(nx s i).2,by omega,by omega,by omega,hb⟩
   · rw [bad,if_pos (by omega)] at hb
     simp -implicitDefEqProofs (disch:=omega) [e0,e3,Wp_some,←hb])
 rcases hx with ⟨rfl,hb⟩|⟨rfl,hb⟩
 · simp -implicitDefEqProofs (disch:=omega) [hb]
 · simp only at hb
   simp -implicitDefEqProofs (disch:=omega) [hb]
theorem c70 {c:FuncId}(s:ByteArray)(h:H)(hs:s.size≤1000000000)(hm:md c 70 = .pure):callD (cx.at c) (call cx prim0) 70 [.t (.str s)] h=some (.t (.int .i64 (bad s 0)),h):=by
 obtain ⟨h',q⟩:=s70 s hs;exact pureT cb70 hm q rfl rfl
theorem l81 {s:ByteArray}{i n:Nat}(hs:s.size≤1000000000)(h1:1≤n)(h4:n≤4)(hle:i+n≤s.size){st:St}{r:CR}{h:H}(hLp:loopω (LB cx prim0 81 Tryz.f81 2) st=r)(en:st.n=69)(eh:st.h=h)(e0:st.env 0 = .t (.str s))(e1:st.env 1 = .t (.int .i64 i))(e6:st.env 6 = .t (.int .i64 n))(e7:st.env 7 = .t (.int .i32 0))(e8:st.env 8 = .t (.int .i64 0)) :
   ∃ x st',r=some (x,st')∧x = .exit 2∧st'.n=69∧st'.h=h∧st'.env 0 = .t (.str s)∧st'.env 1 = .t (.int .i64 i)∧st'.env 6 = .t (.int .i64 n)∧st'.env 7 = .t (.int .i32 (refR s i n n)):=by
 refine loop_uses hLp n (fun k st=>st.n=69∧st.h=h∧st.env 0 = .t (.str s)∧st.env 1 = .t (.int .i64 i)∧st.env 6 = .t (.int .i64 n)∧st.env 8 = .t (.int .i64 k)∧st.env 7 = .t (.int .i32 (refR s i n k))) _ ⟨en,eh,e0,e1,e6,e8,e7⟩ ?_
 rintro k ⟨nn,env,h2⟩ hk ⟨rfl,rfl,e0,e1,e6,e8,e7⟩;simp only at e0 e1 e6 e8 e7;rw [LB_run nd81 rfl];by_cases hk':k<n
 · obtain ⟨b,hb,hbt⟩:=bt_get (s:=s) (i:=i+k) (by omega)
   have hb8:=b.toNat_lt;have g1:((i:Int)+k).toNat=i+k:=by omega
   match k,hk' with
   | 0,_ =>
    simp only [Nat.add_zero] at hb hbt;by_cases hn1:n=1
    · subst hn1
      simp -implicitDefEqProofs (disch:=omega) [e0,e1,e6,e8,e7,hb,Wp_some,refR,hbt]
    · have n4:n=2∨n=3∨n=4:=by omega
      rcases n4 with rfl|rfl|rfl
      all_goals simp -implicitDefEqProofs (disch:=omega) [e0,e1,e6,e8,e7,hb,Wp_some,refR,hbt]
      all_goals exact tmod_pos' (by omega)
   | k+1,hk1 =>
    have hlt:=refR_lt s i n h1 h4 (k+1) (by omega)
    have hp:256*64 ^ (k+1-1)≤256*64 ^ 2:=Nat.mul_le_mul_left _ (Nat.pow_le_pow_right (by omega) (by omega))
    have h64:256*64 ^ 2=1048576:=by decide
    have hlt2:refR s i n (k+1)<1048576:=by omega
    have g2:((i:Int)+((k:Int)+1)).toNat=i+(k+1):=by omega
    have g4:0≤(i:Int)+((k:Int)+1):=by omega
    have g3:(b.toNat:Int).tmod 64=(b.toNat:Int)%64:=tmod_pos' (by omega)
    simp -implicitDefEqProofs (disch:=omega) [e0,e1,e6,e8,e7,g2,g3,g4,hb,Wp_some,refR,hbt];omega
 · obtain rfl:k=n:=by omega
   simp -implicitDefEqProofs (disch:=omega) [e0,e1,e6,e8,e7,Wp_some]
theorem s81 (s:ByteArray)(i:Nat)(hs:s.size≤1000000000):∃ h',call cx prim0 81 [.t (.str s),.t (.int .i64 i)] .empty=some (.tup [.t (.int .i32 (nx s i).1),.t (.int .i64 (nx s i).2)],h'):=by
 rw [call_run (cx:=cx) rfl Tryz.func81 ok81 nd81 rfl (lbe rfl) rfl rfl];by_cases hi:s.size≤i
 · have e:nx s i=(0,0):=by unfold nx; rw [if_pos hi]
   rw [e];simp -implicitDefEqProofs (disch:=omega) []
 simp -implicitDefEqProofs (disch:=omega) [];generalize hLp:loopω _ _=L;obtain ⟨x,⟨nn,env,h2⟩,rfl,rfl,hx⟩:=loop_uses hLp 4
   (fun k st=>st.n=69∧k≤4∧st.env 0 = .t (.str s)∧st.env 1 = .t (.int .i64 i)∧st.env 6 = .t (.int .i64 (k+1:Nat))∧∀ n,1≤n→n≤k→(nx s i).2≠n)
   (fun x st=>st.n=69∧((x = .exit 0∧nx s i=(0,0))∨(x = .ret∧st.env 4 = .t (.int .i32 (nx s i).1)∧st.env 5 = .t (.int .i64 (nx s i).2))))
   (by refine ⟨rfl,by omega,by simp,by simp,by simp,fun n h1 h2=>by omega⟩) (by
   rintro k ⟨nn,env,h2⟩ hk ⟨rfl,hk4,e0,e1,e6,hno⟩;simp only at e0 e1 e6;rw [LB_run nd81 rfl];have none:(nx s i).2=0→nx s i=(0,0):=fun h=>by
     unfold nx at h ⊢;rw [if_neg hi] at h ⊢;simp only at h ⊢
     repeat' split
     all_goals first|rfl|(exfalso; simp_all)
   by_cases hk':k<4∧i+(k+1)≤s.size
   · have f1:((k+1:Nat):Int)≤4:=by omega
     have f2:((k+1:Nat):Int)≤s.size-i:=by omega
     have ll:=fun (st:St) (r:CR) (h:H)=>l81 (s:=s) (i:=i) (n:=k+1) (st:=st) (r:=r) (h:=h) hs (by omega) (by omega) hk'.2
     have hiff:=nx_ref (s:=s) (i:=i) (n:=k+1) (by omega) (by omega) hk'.2
     have exb:=extract_bytes s i (k+1);have g2:((i:Int)+((k:Int)+1)).toNat=i+(k+1):=by omega
     have kk:=fun h=>c131 (c:=81) (refR s i (k+1) (k+1)) h rfl
     have cb:=fun h=>conv_bytes (P:=Tryz.prog) (h:=h) tk163 tk9 tk5 (sl_slice (ub (putL (refR s i (k+1) (k+1)))))
     simp -implicitDefEqProofs (disch:=omega) [e0,e1,e6];generalize hLp:loopω _ _=L;obtain ⟨x,⟨nn,env,h3⟩,rfl,rfl,q1,q2,q3,q4,q5,q6⟩:=ll _ _ _ hLp rfl rfl (by simp [e0]) (by simp [e1]) (by simp [e6]) (by simp) (by simp)
     simp only at q1 q2 q3 q4 q5 q6;subst q1 q2;have g1:((i:Int)).toNat=i:=by omega
     have g5:i+(k+1)≤s.size:=hk'.2;have exs:=sl_str (s:=s) (a:=i) (b:=(i:Int)+((k:Int)+1));by_cases hm:putL (refR s i (k+1) (k+1))=(s.data.toList.drop i).take (k+1)
     · have e:=hiff.1 hm
       have hme:eqS ⟨(putL (refR s i (k+1) (k+1))).toArray⟩ (s.extract i (i+(k+1)))=true:=by
         apply decide_eq_true;rw [hm,←exb]
       have e1':(nx s i).1=(refR s i (k+1) (k+1):Nat):=by rw [e]
       have e2':(nx s i).2=k+1:=by rw [e]
       simp -implicitDefEqProofs (disch:=omega) [q3,q4,q5,q6,kk,cb,exs,g2,hme,Wp_some,e1',e2']
     · have hme:eqS ⟨(putL (refR s i (k+1) (k+1))).toArray⟩ (s.extract i (i+(k+1)))=false:=by
         apply decide_eq_false;intro h;apply hm;rw [←exb,←h]
       have hne:(nx s i).2≠k+1:=fun h=>by
         have hs2:=nx_some (s:=s) (i:=i) (by omega)
         rw [h] at hs2;exact hm (hiff.2 hs2.2.2)
       simp -implicitDefEqProofs (disch:=omega) [q3,q4,q5,q6,kk,cb,exs,g2,hme,Wp_some];refine ⟨by omega,by omega,fun n h1 h2=>?_⟩
       by_cases h3:n=k+1
       · rw [h3]; exact hne
       · exact hno n h1 (by omega)
   · have h0:(nx s i).2=0:=by
       by_cases h0:(nx s i).2=0
       · exact h0
       · exfalso
         have hs2:=nx_some (s:=s) (i:=i) h0;exact hno (nx s i).2 (by omega) (by omega) rfl
     have hz:=none h0;by_cases h5:k+1≤4
     · have h5':((k:Int)+1)≤4:=by omega
       have h6:¬ ((k:Int)+1)≤s.size-i:=by omega
       simp -implicitDefEqProofs (disch:=omega) [e0,e1,e6,Wp_some,hz]
     · have h5':¬ ((k:Int)+1)≤4:=by omega
       simp -implicitDefEqProofs (disch:=omega) [e0,e1,e6,Wp_some,hz])
 rcases hx with ⟨rfl,hb⟩|⟨rfl,hb,hb2⟩
 · simp -implicitDefEqProofs (disch:=omega) [hb]
 · simp only at hb hb2
   simp -implicitDefEqProofs (disch:=omega) [hb,hb2]
theorem c81 {c:FuncId}(s:ByteArray)(i:Nat)(h:H)(hs:s.size≤1000000000)(hm:md c 81 = .pure):callD (cx.at c) (call cx prim0) 81 [.t (.str s),.t (.int .i64 i)] h=some (.tup [.t (.int .i32 (nx s i).1),.t (.int .i64 (nx s i).2)],h):=by
 obtain ⟨h',q⟩:=s81 s i hs;exact pureT cb81 hm q (by simp [snapOut]) rfl
theorem s45 (s:ByteArray)(hs:s.size≤1000000000):∃ h',call cx prim0 45 [.t (.str s)] .empty=some (.t (.bool (chs s 0)),h'):=by
 rw [call_run (cx:=cx) rfl Tryz.func45 ok45 nd45 rfl (lbe rfl) rfl rfl];simp -implicitDefEqProofs (disch:=omega) [];generalize hLp:loopω _ _=L;obtain ⟨x,⟨nn,env,h2⟩,rfl,rfl,hx⟩:=loop_uses hLp s.size
   (fun k st=>st.n=26∧∃ i:Nat,k≤i∧i≤s.size∧st.env 0 = .t (.str s)∧st.env 3 = .t (.int .i64 i)∧chs s i=chs s 0)
   (fun x st=>st.n=26∧((x = .exit 0∧chs s 0=true)∨(x = .ret∧chs s 0=false∧st.env 2 = .t (.bool false))))
   (by refine ⟨rfl,0,?_⟩; simp) (by
   rintro k ⟨nn,env,h2⟩ hk ⟨rfl,i,hki,his,e0,e3,hb⟩;simp only at e0 e3;rw [LB_run nd45 rfl];by_cases hi:i<s.size
   · have q:=fun h=>c81 (c:=45) s i h hs rfl
     have q82:=fun h=>c82 (c:=45) (nx s i).1 h rfl
     have hle:=nx_le hi;have c1:(i:Int)<s.size:=by omega
     rw [chs_step hi] at hb;by_cases hn:(nx s i).2=0
     · rw [if_pos (.inl hn)] at hb
       simp -implicitDefEqProofs (disch:=omega) [e0,e3,q,hn,Wp_some];exact hb.symm
     · have hn':eqI ((nx s i).2:Int) 0=false:=eqI_false (by omega)
       cases hc:charB (nx s i).1 with
       | false =>
        rw [hc] at q82;rw [if_pos (.inr hc)] at hb;simp -implicitDefEqProofs (disch:=omega) [e0,e3,q,q82,hn',Wp_some];exact hb.symm
       | true =>
        rw [hc] at q82;rw [if_neg (by simp [hn,hc])] at hb
        simp -implicitDefEqProofs (disch:=omega) [e0,e3,q,q82,hn',Wp_some];exact ⟨by omega,i+(nx s i).2,by omega,by omega,by omega,hb⟩
   · have c1:¬ (i:Int)<s.size:=by omega
     rw [chs_over (by omega)] at hb
     simp -implicitDefEqProofs (disch:=omega) [e0,e3,Wp_some,←hb])
 rcases hx with ⟨rfl,hb⟩|⟨rfl,hb,e2⟩
 · simp -implicitDefEqProofs (disch:=omega) [hb]
 · simp only at e2
   simp -implicitDefEqProofs (disch:=omega) [hb,e2]
theorem c45 {c:FuncId}(s:ByteArray)(h:H)(hs:s.size≤1000000000)(hm:md c 45 = .pure):callD (cx.at c) (call cx prim0) 45 [.t (.str s)] h=some (.t (.bool (chs s 0)),h):=by
 obtain ⟨h',q⟩:=s45 s hs;exact pureT cb45 hm q rfl rfl
theorem s103 (s:ByteArray)(hs:s.size≤1000000000):∃ h',call cx prim0 103 [.t (.str s)] .empty=some (.t (.bool (chs s 0)),h'):=by
 rw [call_run (cx:=cx) rfl Tryz.func103 ok103 nd103 rfl (lbe rfl) rfl rfl];have q70:=fun h=>c70 (c:=103) s h hs rfl
 by_cases hb:0≤bad s 0
 · have e:=bad_chs hb
   simp -implicitDefEqProofs (disch:=omega) [q70,e]
 have hbad:bad s 0 = -1:=by
   have hge:∀ i,bad s i = -1∨0≤bad s i:=fun i=>by
     fun_induction bad s i with
     | case1=>exact .inl rfl
     | case2=>exact .inr (by omega)
     | case3 _ _ _ ih=>exact ih
   rcases hge 0 with h|h<;>omega
 rw [hbad] at q70;simp -implicitDefEqProofs (disch:=omega) [q70,rangeD];generalize hLp:loopω _ _=L;obtain ⟨x,⟨nn,env,h2⟩,rfl,rfl,hx⟩:=loop_uses hLp s.size
   (fun k st=>st.n=16∧∃ i:Nat,k≤i∧i≤s.size∧st.env 9 = .iter 0∧st.h.objs 0=some (.iter s i)∧chs s i=chs s 0∧bad s i = -1)
   (fun x st=>st.n=16∧((x = .exit 0∧chs s 0=true)∨(x = .ret∧chs s 0=false∧st.env 2 = .t (.bool false))))
   (by refine ⟨rfl,0,?_⟩; simp [hbad]) (by
   rintro k ⟨nn,env,h2⟩ hk ⟨rfl,i,hki,his,e9,ho,hb1,hb2⟩;simp only at e9 ho;rw [LB_run nd103 rfl];by_cases hi:i<s.size
   · have hn:(nx s i).2≠0:=fun h=>by
      rw [bad_step hi,if_pos h] at hb2;omega
     obtain ⟨d1,d2⟩:=dec_nx hn;have hle:=nx_le hi;have q142:=fun h=>c142 (c:=103) (nx s i).1 h rfl
     have hnext:nextD h2 true (.iter 0)=some (.tup [.t (.bool true),.t (.int .i64 i),.t (.int .i32 (nx s i).1)],h2.set 0 (.iter s (i+(nx s i).2))):=by
      simp only [nextD,ho];rw [if_pos hi,d1,d2]
     rw [chs_step hi] at hb1;rw [bad_step hi,if_neg hn] at hb2
     cases hc:charB (nx s i).1 with
     | false =>
      rw [hc] at q142;rw [if_pos (.inr hc)] at hb1;simp -implicitDefEqProofs (disch:=omega) [e9,hnext,q142,Wp_some];exact hb1.symm
     | true =>
      rw [hc] at q142;rw [if_neg (by simp [hn,hc])] at hb1
      simp -implicitDefEqProofs (disch:=omega) [e9,hnext,q142,Wp_some];exact ⟨by omega,i+(nx s i).2,by omega,by omega,rfl,hb1,hb2⟩
   · have hnext:nextD h2 true (.iter 0)=some (.tup [.t (.bool false)],h2):=by
      simp only [nextD,ho];rw [if_neg hi]
     rw [chs_over (by omega)] at hb1
     simp -implicitDefEqProofs (disch:=omega) [e9,hnext,Wp_some,←hb1])
 rcases hx with ⟨rfl,hb⟩|⟨rfl,hb,e2⟩
 · simp -implicitDefEqProofs (disch:=omega) [hb]
 · simp only at e2
   simp -implicitDefEqProofs (disch:=omega) [hb,e2]
theorem c103 {c:FuncId}(s:ByteArray)(h:H)(hs:s.size≤1000000000)(hm:md c 103 = .pure):callD (cx.at c) (call cx prim0) 103 [.t (.str s)] h=some (.t (.bool (chs s 0)),h):=by
 obtain ⟨h',q⟩:=s103 s hs;exact pureT cb103 hm q rfl rfl
end Go.Proofs.YtaldobgfbkllfaaGreatDoor.P0
