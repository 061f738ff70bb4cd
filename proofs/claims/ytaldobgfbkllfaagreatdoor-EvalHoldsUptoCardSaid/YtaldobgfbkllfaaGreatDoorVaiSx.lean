import Derived.Test.YtaldobgfbkllfaaGreatDoorVaiSw
import Derived.Test.YtaldobgfbkllfaaGreatDoorVaiD
import Derived.Test.YtaldobgfbkllfaaGreatDoorVaiSc
import Derived.Test.YtaldobgfbkllfaaGreatDoorCards
import Derived.Test.YtaldobgfbkllfaaGreatDoorTie
import Derived.WalkKit
import Derived.ProofKit
import Derived.OpenShut
import Derived.JoinedCond
import Derived.Deep.DeepHandedRow
import Derived.Deep.DeepWitnessRowRef
import Derived.Lib.LaidIn
import Derived.Lib.LaidTab
import Derived.Stop.LaidErr
import Derived.Test.YtaldobgfbkllfaaGreatDoorVaiSr
set_option linter.unusedSimpArgs false
set_option linter.unusedVariables false
set_option linter.unusedSectionVars false
namespace Go.Proofs.YtaldobgfbkllfaaGreatDoor
open Vai P0
variable [GlP]
set_option maxHeartbeats 0
set_option maxRecDepth 100000
section
variable {vs y l:T}{s:ByteArray}{at_ e K kd:Int}(hy:∀ (c:FuncId)(h:H),md c 18 = .pure→callD (cx.at c) (call cx prim) 18 [.t vs] h=some (.t y,h))
 (hP:∀ h,callD (cx.at 44) (call cx prim) 29 [.t (.str s),.t y] h=some (.tup [.t l,.t (fltT at_ e)],h))
include hy hP
theorem s44e (he:e≠0):∃ h',call cx prim 44 [.t (.str s),.t vs,.t (iv kd)] .empty=some (.tup [.t (val3 z3),.t (iv e)],h'):=by
 rw [call_run (cx:=cx) rfl Tryz.func44 ok44 nd44 rfl (lbe rfl) rfl rfl];have q1:=fun h=>hy 44 h rfl
 have e1:eqI e 0=false:=eqI_false he;unfold fltT at hP;simp -implicitDefEqProofs (disch:=omega) [q1,hP,e1,md,D.parts]
theorem s44k (he:e=0)(hK:∀ h,callD (cx.at 44) (call cx prim) 37 [.t l,.t y] h=some (.t (iv K),h))(hk:K≠kd):∃ h',call cx prim 44 [.t (.str s),.t vs,.t (iv kd)] .empty=some (.tup [.t (val3 z3),.t (iv 132)],h'):=by
 rw [call_run (cx:=cx) rfl Tryz.func44 ok44 nd44 rfl (lbe rfl) rfl rfl];have q1:=fun h=>hy 44 h rfl
 subst he;unfold fltT at hP;have e1:eqI K kd=false:=eqI_false hk;simp -implicitDefEqProofs (disch:=omega) [q1,hP,hK,e1,md,D.parts]
theorem s44 (he:e=0)(hK:∀ h,callD (cx.at 44) (call cx prim) 37 [.t l,.t y] h=some (.t (iv K),h))(hk:K=kd){v:V3}{er:Int}(hV:∀ h,callD (cx.at 44) (call cx prim) 16 [.t l,.t vs] h=some (.tup [.t (val3 v),.t (iv er)],h)) :
  ∃ h',call cx prim 44 [.t (.str s),.t vs,.t (iv kd)] .empty=some (.tup [.t (val3 v),.t (iv er)],h'):=by
 rw [call_run (cx:=cx) rfl Tryz.func44 ok44 nd44 rfl (lbe rfl) rfl rfl];have q1:=fun h=>hy 44 h rfl
 subst he hk;unfold fltT at hP;simp -implicitDefEqProofs (disch:=omega) [q1,hP,hK,hV,md,D.parts]
end
theorem c44 {c:FuncId}{s:ByteArray}{vs:T}{kd er:Int}{v:V3}(hm:md c 44 = .pure)(hq:∃ h',call cx prim 44 [.t (.str s),.t vs,.t (iv kd)] .empty=some (.tup [.t (val3 v),.t (iv er)],h'))(h:H) :
  callD (cx.at c) (call cx prim) 44 [.t (.str s),.t vs,.t (iv kd)] h=some (.tup [.t (val3 v),.t (iv er)],h):=by
 obtain ⟨h',q⟩:=hq;exact pureT cb44 hm q rfl rfl
theorem s22b {s:ByteArray}{vs:T}{vl:List WV}(hv:Slice vs (vl.map varW))(hs:smallW vl)(hb:varsB vl=false):∃ h',call cx prim 22 [.t (.str s),.t vs] .empty=some (.tup [.t (.bool false),.t (iv 2)],h'):=by
 rw [call_run (cx:=cx) rfl Tryz.func22 ok22 nd22 rfl (lbe rfl) rfl rfl];have q1:=fun h=>c36 (c:=22) (d:=.t vs) (x:=vs) h rfl hv hs rfl
 rw [hb] at q1;simp -implicitDefEqProofs (disch:=omega) [q1]
theorem s22 {s:ByteArray}{vs:T}{vl:List WV}(hv:Slice vs (vl.map varW))(hs:smallW vl)(hb:varsB vl=true){v:V3}{er:Int}(hF:∀ h,callD (cx.at 22) (call cx prim) 44 [.t (.str s),.t vs,.t (iv 2)] h=some (.tup [.t (val3 v),.t (iv er)],h)) :
  ∃ h',call cx prim 22 [.t (.str s),.t vs] .empty=some (.tup [.t (.bool (eqI v.2.1 1)),.t (iv er)],h'):=by
 rw [call_run (cx:=cx) rfl Tryz.func22 ok22 nd22 rfl (lbe rfl) rfl rfl];have q1:=fun h=>c36 (c:=22) (d:=.t vs) (x:=vs) h rfl hv hs rfl
 rw [hb] at q1;simp -implicitDefEqProofs (disch:=omega) [q1,hF]
theorem c22 {c:FuncId}{s:ByteArray}{vs:T}{er:Int}{b:Bool}(hm:md c 22 = .pure)(hq:∃ h',call cx prim 22 [.t (.str s),.t vs] .empty=some (.tup [.t (.bool b),.t (iv er)],h'))(h:H) :
  callD (cx.at c) (call cx prim) 22 [.t (.str s),.t vs] h=some (.tup [.t (.bool b),.t (iv er)],h):=by
 obtain ⟨h',q⟩:=hq;exact pureT cb22 hm q rfl rfl
section
variable {s:ByteArray}{vs:T}{vl:List WV}{r:PR}{ps:List PT}{p w:Int}(hs:s.size≤1000000000)(hv:Slice vs (vl.map varW))(hsm:smallW vl)(hok:∀ nm,OKV (getV vl nm))(hr:Rd s.size (.lv 6) (lexS s).1 0 [] r)(hb:ParseBy s (vl.map dcl) r ps p w)
include hs hv hsm hok hr hb
theorem f43 (kd:Int):∃ h',call cx prim 43 [.t (.str s),.t vs,.t (iv kd)] .empty=some (.tup [.t (val3 (fndV ps w vl kd).1),.t (iv (fndV ps w vl kd).2)],h'):=by
 obtain ⟨y,hy,q17⟩:=c17 hv hsm.1;rw [dclT] at hy;obtain ⟨ps',p',w',x,b',hx,q20⟩:=c20r (c:=43) hs hy (by simpa using hsm.1) hr rfl
 obtain ⟨rfl,rfl,rfl⟩:=parse_fun hb b';have hln:=by_len hr hb;have hpo:PartsOK ps vl:=⟨by_okv hr hb,hok⟩;have qK:=fun h=>c26 hx hy (by simpa using hsm.1) (fun z hz=>(hpo.1 z hz).2.2) (by omega) (c:=43) rfl h
 unfold fndV;by_cases hw:w=0
 · rw [if_neg (by simpa using hw)]
   by_cases hk:kindS ps (vl.map dcl)=kd
   · rw [if_neg (by simpa using hk)]
     exact s43 q17 q20 hw qK hk fun h=>c15v hx hv hsm hpo (by omega) (c:=43) rfl h
   · rw [if_pos hk]; exact s43k q17 q20 hw qK hk
 · rw [if_pos hw]; exact s43e q17 q20 hw
theorem f44 (kd:Int):∃ h',call cx prim 44 [.t (.str s),.t vs,.t (iv kd)] .empty=some (.tup [.t (val3 (fndV ps w vl kd).1),.t (iv (fndV ps w vl kd).2)],h'):=by
 obtain ⟨y,hy,q18⟩:=c18 hv hsm.1;rw [dclT] at hy;obtain ⟨ps',p',w',x,b',hx,q29⟩:=c29 (c:=44) hs hy (by simpa using hsm.1) hr rfl
 obtain ⟨rfl,rfl,rfl⟩:=parse_fun hb b';have hln:=by_len hr hb;have hpo:PartsOK ps vl:=⟨by_okv hr hb,hok⟩;have qK:=fun h=>c37 hx hy (by simpa using hsm.1) (fun z hz=>(hpo.1 z hz).2.2) (by omega) (c:=44) rfl h
 unfold fndV;by_cases hw:w=0
 · rw [if_neg (by simpa using hw)]
   by_cases hk:kindS ps (vl.map dcl)=kd
   · rw [if_neg (by simpa using hk)]
     exact s44 q18 q29 hw qK hk fun h=>c16v hx hv hsm hpo (by omega) (c:=44) rfl h
   · rw [if_pos hk]; exact s44k q18 q29 hw qK hk
 · rw [if_pos hw]; exact s44e q18 q29 hw
def hldV (ps:List PT)(w:Int)(vl:List WV):Bool × Int:=if varsB vl=false then (false,2) else (eqI (fndV ps w vl 2).1.2.1 1,(fndV ps w vl 2).2)
theorem f21:∃ h',call cx prim 21 [.t (.str s),.t vs] .empty=some (.tup [.t (.bool (hldV ps w vl).1),.t (iv (hldV ps w vl).2)],h'):=by
 unfold hldV
 cases hvb:varsB vl with
 | false=>rw [if_pos rfl]; exact s21b hv hsm hvb
 | true =>
  rw [if_neg (by decide)]
  exact s21 hv hsm hvb fun h=>c43 rfl (f43 hs hv hsm hok hr hb 2) h
theorem f22:∃ h',call cx prim 22 [.t (.str s),.t vs] .empty=some (.tup [.t (.bool (hldV ps w vl).1),.t (iv (hldV ps w vl).2)],h'):=by
 unfold hldV
 cases hvb:varsB vl with
 | false=>rw [if_pos rfl]; exact s22b hv hsm hvb
 | true =>
  rw [if_neg (by decide)]
  exact s22 hv hsm hvb fun h=>c44 rfl (f44 hs hv hsm hok hr hb 2) h
end
theorem law5 {s:ByteArray}{vs:T}{vl:List WV}(hs:s.size≤1000000000)(hv:Slice vs (vl.map varW))(hsm:smallW vl)(hok:∀ nm,OKV (getV vl nm)):∃ h',call cx prim 5 [.t (.str s),.t vs] .empty=some (.t (.bool true),h'):=by
 obtain ⟨r,hr⟩:=rd_any s;obtain ⟨y,hy,_⟩:=c17 hv hsm.1;rw [dclT] at hy;obtain ⟨ps,p,w,x,hb,_,_⟩:=c20r (c:=43) hs hy (by simpa using hsm.1) hr rfl
 have q21:=fun h=>c21 (c:=5) rfl (f21 hs hv hsm hok hr hb) h
 have q22:=fun h=>c22 (c:=5) rfl (f22 hs hv hsm hok hr hb) h
 rw [call_run (cx:=cx) rfl Tryz.func5 ok5 nd5 rfl (lbe rfl) rfl rfl];have q14:=fun h=>c14 (c:=5) h rfl
 have hlv:=fun hh=>hv.len (P:=Tryz.prog) (t:=23) tk23 hh
 rw [List.length_map] at hlv;by_cases h40:vl.length>40
 · have e1:ltI 40 (vl.length:Int)=true:=ltI_true (by omega)
   simp -implicitDefEqProofs (disch:=omega) [q14,hlv,e1]
 have e1:ltI 40 (vl.length:Int)=false:=ltI_false (by omega)
 generalize hldV ps w vl=E at *;obtain ⟨E1,E2⟩:=E;simp -implicitDefEqProofs (disch:=omega) [q14,hlv,e1,q21,q22]
end Go.Proofs.YtaldobgfbkllfaaGreatDoor

namespace Go.Proofs.YtaldobgfbkllfaaGreatDoor
open Vai
open Go.ChangeShapes Go.WideShapes Go.ChangeAt Go.RowKit
theorem bulk_one {H:Type}(d:DataW H):1≤Rows.uptoBulk d:=by
 cases d with
 | lit l=>cases l<;>simp [Rows.uptoBulk]
 | _=>simp [Rows.uptoBulk]
def bulk (H:Type):Bulk H where
 b:=Rows.uptoBulk
 bs:=Rows.uptoBulkAll
 str:=fun s=>by simp [Rows.uptoBulk]
 lit:=fun l=>bulk_one _
 nil:=bulk_one _
 slice:=fun e s=>by simp only [Rows.uptoBulk]; omega
 agg:=fun p=>by simp only [Rows.uptoBulk]; omega
 cons:=fun d r=>by simp only [Rows.uptoBulkAll]
theorem own:ownKnob Tryz.prog.godebug=none:=by kernel_rfl
theorem mixed:Tryz.prog.follows .mixedOrders=true:=by kernel_rfl
theorem laid:laidOutB Tryz.prog=true:=by kernel_rfl
theorem has_str {x:T}(h:Sh.str.has x):∃ s:ByteArray,x = .str s∧s.size≤x.bulk:=by
 obtain ⟨l,⟨s,rfl⟩,h2⟩:=h;simp [Sh.isAgg] at h2;subst h2;exact ⟨s,rfl,by simp [T.bulk]⟩
theorem bulk_bs {H:Type}(l:List (DataW H)){n:Nat}(h:Rows.uptoBulkAll l≤n):(bulk H).bs l≤n:=h
theorem small_le {H:Type}{l:List (DataW H)}(hk:Rows.uptoSmall H l=true):(bulk H).bs l≤1048576:=by
 unfold Rows.uptoSmall at hk;exact bulk_bs l (of_decide_eq_true hk)
theorem has_slice {e:Sh}{x:T}(h:(Sh.slice e).has x):x = .nilSlice∨∃ es,x = .slice es∧∀ y∈es,e.has y:=by
 obtain ⟨l,h1,h2⟩:=h;simp only [Sh.isAgg,Bool.false_eq_true,if_false] at h2;subst h2;simp only [Sh.hasL] at h1;rcases h1 with h1|⟨es,h1,h2⟩
 · simp only [List.cons.injEq,and_true] at h1
   exact .inl h1
 · simp only [List.cons.injEq,and_true] at h1
   exact .inr ⟨es,h1,h2⟩
theorem list_dec {α:Type}{enc:α→T}{p:α→Prop}:∀ {es:List T},(∀ y∈es,∃ a,y=enc a∧p a)→∃ l:List α,es=l.map enc∧∀ a∈l,p a
 | [],_=>⟨[],rfl,fun a h=>by cases h⟩
 | y::es,h=>by
  obtain ⟨a,rfl,ha⟩:=h y List.mem_cons_self;obtain ⟨l,rfl,hl⟩:=list_dec (es:=es) fun z hz=>h z (List.mem_cons_of_mem _ hz)
  exact ⟨a::l,rfl,fun b hb=>by
   rcases List.mem_cons.1 hb with rfl|hb
   · exact ha
   · exact hl b hb⟩
theorem has_slice_dec {e:Sh}{x:T}{α:Type}{enc:α→T}{p:α→Prop}(h:(Sh.slice e).has x)(hd:∀ y,e.has y→∃ a,y=enc a∧p a):∃ l:List α,Slice x (l.map enc)∧(∀ a∈l,p a)∧T.bulk.bulks (l.map enc)≤x.bulk:=by
 rcases has_slice h with rfl|⟨es,rfl,hes⟩
 · exact ⟨[],.nil,(fun a h=>by cases h),by simp [T.bulk.bulks]⟩
 · obtain ⟨l,rfl,hl⟩:=list_dec (es:=es) fun y hy=>hd y (hes y hy)
   exact ⟨l,.mk,hl,by simp only [T.bulk]; omega⟩
theorem has_agg {ss:List Sh}{x:T}(h:(Sh.agg ss).has x):∃ l,x = .agg l∧Sh.hasL.hasLs ss l:=by
 obtain ⟨l,h1,h2⟩:=h;simp only [Sh.isAgg,if_true] at h2;exact ⟨l,h2,by simpa [Sh.hasL] using h1⟩
theorem starE : "*" ++ "errors.errorString" = "*errors.errorString" := by decide
theorem rowE (u:TypeId)(h:Tryz.prog.typeName? 3 u=some "*errors.errorString"):u=264 :=
 typeName_ptr_named (nm := "errors.errorString") (by rw [starE]; kernel_rfl) (by kernel_rfl) (by decide) u (by rw [starE]; exact h)
@[reducible] def gl0:GlY where
 blk k:=k=4∨k=5∨k=3
 ok w:=(errOK w 4∧errOK w 5)∧Lib.TabIs Tryz.prog w "internal/strconv.uint64pow10" .u64 Lib.pow10Tab
 stay w w' h ho:=by
  refine ⟨⟨ho.1.1.elim fun ev he=>⟨ev,?_,he.2⟩,ho.1.2.elim fun ev he=>⟨ev,?_,he.2⟩⟩,tab_stay (h 3 (.inr (.inr rfl))) ho.2⟩
  · rw [World.cell?_of_block (h 4 (.inl rfl))]; exact he.1
  · rw [World.cell?_of_block (h 5 (.inr (.inl rfl)))]; exact he.1
 tree _:=none
 trees _ _ _ _ h:=by cases h
 base _ h:=h
theorem cell_ok {W:World}{g:Nat}{v:Value}(hc:W.cell? ⟨g,0,none⟩=some v):g<W.heap.size:=by
 rcases Nat.lt_or_ge g W.heap.size with h'|h'
 · exact h'
 · simp [World.cell?,Array.getElem?_eq_none h'] at hc
noncomputable def laidWorld (os:Os):World :=
 let N:=(World.settled Tryz.prog os).heap.size
 let w0:=World.holding Tryz.prog os ⟨#[.cells #[.string ⟨#[105,110,118,97,108,105,100,32,115,121,110,116,97,120]⟩] 266,.cells #[.string ⟨#[118,97,108,117,101,32,111,117,116,32,111,102,32,114,97,110,103,101]⟩] 266],#[],[]⟩
 let put (h:Array Obj) (g:Nat) (cs:Array Value):Array Obj:=h.modify g fun
  | .cells _ t frozen=>.cells cs t frozen
  | o=>o
 let h0:=put (put w0.heap 4 #[.iface 264 (.pointer (some ⟨N,0,none⟩))]) 5 #[.iface 264 (.pointer (some ⟨N+1,0,none⟩))]
 let h1:=put h0 3 #[.int .u64 1,.int .u64 10,.int .u64 100,.int .u64 1000,.int .u64 10000,.int .u64 100000,.int .u64 1000000,.int .u64 10000000,.int .u64 100000000,.int .u64 1000000000,.int .u64 10000000000,.int .u64 100000000000,.int .u64 1000000000000,.int .u64 10000000000000,.int .u64 100000000000000,.int .u64 1000000000000000,.int .u64 10000000000000000,.int .u64 100000000000000000,.int .u64 1000000000000000000,.int .u64 10000000000000000000]
 let h2:=put h1 6 #[.int .u8 0,.int .u8 1,.int .u8 28,.int .u8 2,.int .u8 29,.int .u8 14,.int .u8 24,.int .u8 3,.int .u8 30,.int .u8 22,.int .u8 20,.int .u8 15,.int .u8 25,.int .u8 17,.int .u8 4,.int .u8 8,.int .u8 31,.int .u8 27,.int .u8 13,.int .u8 23,.int .u8 21,.int .u8 19,.int .u8 16,.int .u8 7,.int .u8 26,.int .u8 12,.int .u8 18,.int .u8 6,.int .u8 11,.int .u8 5,.int .u8 10,.int .u8 9]
 let h3:=put h2 7 #[.int .u8 0,.int .u8 1,.int .u8 56,.int .u8 2,.int .u8 57,.int .u8 49,.int .u8 28,.int .u8 3,.int .u8 61,.int .u8 58,.int .u8 42,.int .u8 50,.int .u8 38,.int .u8 29,.int .u8 17,.int .u8 4,.int .u8 62,.int .u8 47,.int .u8 59,.int .u8 36,.int .u8 45,.int .u8 43,.int .u8 51,.int .u8 22,.int .u8 53,.int .u8 39,.int .u8 33,.int .u8 30,.int .u8 24,.int .u8 18,.int .u8 12,.int .u8 5,.int .u8 63,.int .u8 55,.int .u8 48,.int .u8 27,.int .u8 60,.int .u8 41,.int .u8 37,.int .u8 16,.int .u8 46,.int .u8 35,.int .u8 44,.int .u8 21,.int .u8 52,.int .u8 32,.int .u8 23,.int .u8 11,.int .u8 54,.int .u8 26,.int .u8 40,.int .u8 15,.int .u8 34,.int .u8 20,.int .u8 31,.int .u8 10,.int .u8 25,.int .u8 14,.int .u8 19,.int .u8 9,.int .u8 13,.int .u8 8,.int .u8 7,.int .u8 6]
 { w0 with heap:=h3 }
noncomputable abbrev N0:Nat:=(World.settled Tryz.prog default).heap.size
end Go.Proofs.YtaldobgfbkllfaaGreatDoor

namespace Go.Proofs.YtaldobgfbkllfaaGreatDoor
open Vai
abbrev uSh:Sh:=.agg [.int .i64,.int .i64,.str]
abbrev vSh:Sh:=.agg [.str,.agg [.int .i64,.int .i64,.str]]
abbrev dSh:Sh:=.agg [.str,.int .i64]
abbrev pSh:Sh:=.agg [.int .i64,.int .i64,.int .i64,.int .i64,.agg [.int .i64,.int .i64,.str],.str,.int .i64]
theorem var_dec {y:T}(h:vSh.has y):∃ v:WV,y=varW v∧(-9223372036854775808≤v.2.2.1∧v.2.2.1≤9223372036854775807):=by
 obtain ⟨l,rfl,_,_,rfl,⟨a,rfl⟩,_,_,rfl,⟨_,_,rfl,⟨k,rfl,_⟩,_,_,rfl,⟨n,rfl,hn⟩,_,_,rfl,⟨t,rfl⟩,rfl⟩,rfl⟩:=has_agg h;exact ⟨(a,k,n,t),rfl,hn⟩
theorem var_bulk (l:List WV):l.length≤T.bulk.bulks (l.map varW)∧∀ v∈l,v.1.size≤T.bulk.bulks (l.map varW)∧v.2.2.2.size≤T.bulk.bulks (l.map varW):=by
 induction l with
 | nil=>simp [T.bulk.bulks]
 | cons f l ih =>
  obtain ⟨h1,h3⟩:=ih;simp only [List.map_cons,T.bulk.bulks,T.bulk,List.length_cons];refine ⟨by omega,fun v hv=>?_⟩
  rcases List.mem_cons.1 hv with rfl|hv
  · omega
  · have:=h3 v hv
    omega
theorem get_ok {vl:List WV}(h1:∀ v∈vl,(-9223372036854775808≤v.2.2.1∧v.2.2.1≤9223372036854775807))(h2:∀ v∈vl,v.2.2.2.size≤1000000000)(nm:ByteArray):OKV (getV vl nm):=by
 unfold getV
 cases hw:getW vl nm with
 | none=>exact okz
 | some w =>
  have hm:=List.mem_of_find?_eq_some hw;exact ⟨(h1 w hm).1,(h1 w hm).2,h2 w hm⟩
end Go.Proofs.YtaldobgfbkllfaaGreatDoor

namespace Go.Proofs.YtaldobgfbkllfaaGreatDoor
open Vai
open Go.ChangeShapes Go.WideShapes Go.ChangeAt Go.RowKit
set_option maxRecDepth 100000
theorem glob0:Tryz.prog.globalNamed "pavane/pavaneref13.Signs" = some 0:=by kernel_rfl
theorem glob1:Tryz.prog.globalNamed "pavane/pavaneref13.level" = some 1:=by kernel_rfl
theorem cells_of_strs {H:Type}{enc:TypeId × Value→H}{P:Program}{w:World}{base:Nat}{sp:Nat→Bool}{held:Bool}{fuel:Nat}{t e:TypeId}{n:Nat}{cs:List Value}{zs:List ByteArray}{p:List MemPlace}
  (ht:P.underlying t=some (.array n e)) (he:P.underlying e=some .string) (hce:P.cellsOf e=1) (hct:P.cellsOf t=n)
  (h:DataW.trod enc P w base sp held fuel t cs=some (.agg (zs.map fun z=>.lit (.string z.data.toList)),p)):cs=zs.map fun z=>Value.string z:=by
 cases fuel with
 | zero=>simp [DataW.trod] at h
 | succ fuel =>
  simp only [DataW.trod,ht,hce,hct,Nat.mul_one] at h;split at h
  · rename_i hl
    obtain ⟨xs,hm,hx⟩:=Option.map_eq_some_iff.1 h;have hxs:xs.map (·.1)=zs.map fun z=>(DataW.lit (.string z.data.toList):DataW H):=by simpa using congrArg Prod.fst hx
    have hxl:xs.length=n:=by simpa using Lib.mapM_length hm
    have hzl:zs.length=n:=by have:=congrArg List.length hxs; simp at this; omega
    refine List.ext_getElem? fun i=>?_
    by_cases hi:i<n
    · obtain ⟨b,hb,hf⟩:=Lib.mapM_at hm i i (by simp [hi])
      obtain ⟨z,hc,rfl,_⟩:=DataW.trod_string he hf;have h1:cs[i]?=some (.string z):=by
       have:=congrArg (fun l:List Value=>l[0]?) hc
       simpa [List.getElem?_take,List.getElem?_drop] using this
      have h2:(xs.map (·.1))[i]?=some (DataW.lit (.string z.data.toList):DataW H):=by simp [hb]
      rw [hxs] at h2;simp only [List.getElem?_map,Option.map_eq_some_iff,DataW.lit.injEq,Lit.string.injEq] at h2;obtain ⟨z',hz',hzz⟩:=h2;have:z'=z:=by cases z; cases z'; simp at hzz; rw [hzz]
      rw [h1,List.getElem?_map,hz',this]; rfl
    · rw [List.getElem?_eq_none (by omega),List.getElem?_eq_none (by simp; omega)]
  · cases h
def sgnOK (w:World):Prop:=∀ j,j<13→w.cell? ⟨0,j,none⟩=some (.string (sgnAt j))
def levOK (w:World):Prop:=∀ j,j<13→w.cell? ⟨1,j,none⟩=some (.int .i64 (lev j))
theorem sgn_cells {j:Nat}{c:T}(h:sgnT.cells[j]?=some c):j<13∧scalarT (.string (sgnAt j))=some c:=by
 have hj:j<13:=by
  rcases Nat.lt_or_ge j 13 with h1|h1
  · exact h1
  · have:sgnT.cells.length=13:=by decide
    rw [List.getElem?_eq_none (by omega)] at h; cases h
 refine ⟨hj,?_⟩;rw [←h];rcases k13 hj with rfl|rfl|rfl|rfl|rfl|rfl|rfl|rfl|rfl|rfl|rfl|rfl|rfl<;>rfl
theorem lev_cells {j:Nat}{c:T}(h:levT.cells[j]?=some c):j<13∧scalarT (.int .i64 (lev j))=some c:=by
 have hj:j<13:=by
  rcases Nat.lt_or_ge j 13 with h1|h1
  · exact h1
  · have:levT.cells.length=13:=by decide
    rw [List.getElem?_eq_none (by omega)] at h; cases h
 refine ⟨hj,?_⟩;rw [←h];rcases k13 hj with rfl|rfl|rfl|rfl|rfl|rfl|rfl|rfl|rfl|rfl|rfl|rfl|rfl<;>rfl
@[reducible] def gl1:GlP where
 blk k:=k=4∨k=5∨k=3∨k=0∨k=1
 ok w:=((errOK w 4∧errOK w 5)∧Lib.TabIs Tryz.prog w "internal/strconv.uint64pow10" .u64 Lib.pow10Tab)∧sgnOK w∧levOK w
 stay w w' h ho:=by
  refine ⟨⟨⟨ho.1.1.1.elim fun ev he=>⟨ev,?_,he.2⟩,ho.1.1.2.elim fun ev he=>⟨ev,?_,he.2⟩⟩,tab_stay (h 3 (.inr (.inr (.inl rfl)))) ho.1.2⟩,fun j hj=>?_,fun j hj=>?_⟩
  · rw [World.cell?_of_block (h 4 (.inl rfl))]; exact he.1
  · rw [World.cell?_of_block (h 5 (.inr (.inl rfl)))]; exact he.1
  · rw [World.cell?_of_block (h 0 (.inr (.inr (.inr (.inl rfl)))))]; exact ho.2.1 j hj
  · rw [World.cell?_of_block (h 1 (.inr (.inr (.inr (.inr rfl)))))]; exact ho.2.2 j hj
 tree g:=if g=0 then some sgnT else if g=1 then some levT else none
 trees w g x ho h:=by
  by_cases h0:g=0
  · rw [if_pos h0] at h; cases h; subst h0
    refine ⟨.inr (.inr (.inr (.inl rfl))),by decide,fun j c hc=>?_⟩
    obtain ⟨hj,hs⟩:=sgn_cells hc;exact ⟨_,ho.2.1 j hj,hs⟩
  rw [if_neg h0] at h;by_cases h1:g=1
  · rw [if_pos h1] at h; cases h; subst h1
    refine ⟨.inr (.inr (.inr (.inr rfl))),by decide,fun j c hc=>?_⟩
    obtain ⟨hj,hs⟩:=lev_cells hc;exact ⟨_,ho.2.2 j hj,hs⟩
  rw [if_neg h1] at h; cases h
 base _ h:=h.1
 g0:=rfl
 g1:=rfl
theorem laid_glob1 {W:World}(h:laidMetH Tryz.prog Rows.evalHoldsUptoRow.laid W):gl1.ok W∧∀ k,gl1.blk k→k<W.heap.size:=by
 have hL:laidMet Tryz.prog Rows.evalHoldsUptoRow.laid W:=h;have h3:=hL.tail.tail.tail.tail.tail;obtain ⟨a1,t1,hv1,_⟩:=laid_sentinel (g:=5) h3 (by kernel_rfl) (by kernel_rfl) Tryz.underlying181 rowE Tryz.underlying264 Tryz.underlying266 rfl rfl Tryz.underlying9 (by kernel_rfl) (by kernel_rfl)
 obtain ⟨a0,t0,hv0,_⟩:=laid_sentinel (g:=4) h3.tail (by kernel_rfl) (by kernel_rfl) Tryz.underlying181 rowE Tryz.underlying264 Tryz.underlying266 rfl rfl Tryz.underlying9 (by kernel_rfl) (by kernel_rfl)
 have c1:=World.var?_cell (g:=5) (by kernel_rfl) hv1 0
 have c0:=World.var?_cell (g:=4) (by kernel_rfl) hv0 0
 have ht:Lib.TabIs Tryz.prog W "internal/strconv.uint64pow10" .u64 Lib.pow10Tab:=Lib.tabIs_of_head (g:=3) (t:=225) (e:=170) (n:=20) glob3 (by kernel_rfl) Tryz.underlying225 Tryz.underlying170 (by kernel_rfl) (by kernel_rfl) hL.tail.tail
 have c3:=ht.cell glob3 0 (by decide)
 have hlv:Lib.TabIs Tryz.prog W "pavane/pavaneref13.level" .i64 [1,1,1,2,2,3,3,3,3,3,3,4,5]:=Lib.tabIs_of_head (g:=1) (t:=172) (e:=3) (n:=13) glob1 (by kernel_rfl) Tryz.underlying172 Tryz.underlying3 (by kernel_rfl) (by kernel_rfl) hL.tail.tail.tail.tail
 have hlev:levOK W:=fun j hj=>by
   have:=hlv.cell glob1 j hj;rw [this];rcases k13 hj with rfl|rfl|rfl|rfl|rfl|rfl|rfl|rfl|rfl|rfl|rfl|rfl|rfl<;>rfl
 have hsgn:sgnOK W:=by
   obtain ⟨ps,⟨g',t',cs,fuel,p,q,hg',ht',hvar,hd,_,_⟩,_⟩:=hL.tail.tail.tail;obtain rfl:=Option.some.inj (glob0.symm.trans hg');have htt:(Tryz.prog.globals[0]?).map (·.type)=some 61:=by kernel_rfl
   obtain rfl:=Option.some.inj (htt.symm.trans ht');have hcs:=cells_of_strs (zs:=sgn) (n:=13) (e:=9) Tryz.underlying61 Tryz.underlying9 (by kernel_rfl) (by kernel_rfl) hd
   intro j hj;have hc:=World.var?_cell glob0 hvar j;rw [hc,←Array.getElem?_toList,hcs];rcases k13 hj with rfl|rfl|rfl|rfl|rfl|rfl|rfl|rfl|rfl|rfl|rfl|rfl|rfl<;>rfl
 refine ⟨⟨⟨⟨⟨_,c0,.inr ⟨_,_,rfl⟩⟩,⟨_,c1,.inr ⟨_,_,rfl⟩⟩⟩,ht⟩,hsgn,hlev⟩,?_⟩;rintro k (rfl|rfl|rfl|rfl|rfl)
 · exact cell_ok c0
 · exact cell_ok c1
 · exact cell_ok c3
 · exact cell_ok (hsgn 0 (by decide))
 · exact cell_ok (hlev 0 (by decide))
noncomputable def laidWorld1 (os:Os):World :=
 let put (h:Array Obj) (g:Nat) (cs:Array Value):Array Obj:=h.modify g fun
  | .cells _ t frozen=>.cells cs t frozen
  | o=>o
 let w0:=laidWorld os
 let h1:=put w0.heap 0 #[.string ⟨#[42]⟩,.string ⟨#[47]⟩,.string ⟨#[37]⟩,.string ⟨#[43]⟩,.string ⟨#[45]⟩,.string ⟨#[61,61]⟩,.string ⟨#[33,61]⟩,.string ⟨#[60]⟩,.string ⟨#[60,61]⟩,.string ⟨#[62]⟩,.string ⟨#[62,61]⟩,.string ⟨#[38,38]⟩,.string ⟨#[124,124]⟩]
 let h2:=put h1 1 #[.int .i64 1,.int .i64 1,.int .i64 1,.int .i64 2,.int .i64 2,.int .i64 3,.int .i64 3,.int .i64 3,.int .i64 3,.int .i64 3,.int .i64 3,.int .i64 4,.int .i64 5]
 { w0 with heap:=h2 }
theorem laid_met1 (os:Os)(args:Array Value):laidMet Tryz.prog Rows.evalHoldsUptoRow.laid ((laidWorld1 os).forCall (fun _ _=>0) ⟨#[],args,[]⟩).memory :=
 (LaidIn.of_run [6,7,3,0,1,5,N0+1,4,N0] 8 (by kernel_rfl) (by kernel_rfl) (by kernel_rfl) (by kernel_rfl)).met
end Go.Proofs.YtaldobgfbkllfaaGreatDoor

namespace Go.Proofs.YtaldobgfbkllfaaGreatDoor
open Vai
instance glN1:GlP:=gl1
theorem answers5:Answers cx prim 5 [.str,.slice vSh] 1048576:=by
 rintro xs hxs hb;obtain ⟨x1,_,rfl,h1,x2,_,rfl,h2,rfl⟩:=hxs;obtain ⟨s,rfl,hs⟩:=has_str h1;obtain ⟨vl,hvs,hvn,hbv⟩:=has_slice_dec h2 fun y=>var_dec
 have b2:=var_bulk vl;simp only [T.bulk.bulks] at hb;obtain ⟨h',hc⟩:=law5 (s:=s) (by omega) hvs ⟨by omega,fun v hv=>by have:=b2.2 v hv; omega⟩ (get_ok hvn fun v hv=>by have:=(b2.2 v hv).2; omega)
 obtain ⟨k,hk⟩:=call_some.1 hc;exact ⟨k,h',hk⟩
end Go.Proofs.YtaldobgfbkllfaaGreatDoor
