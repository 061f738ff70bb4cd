import Derived.Test.YtaldobgfbkllfaaGreatDoorVaiSm
import Derived.Test.YtaldobgfbkllfaaGreatDoorVaiD
import Derived.Test.YtaldobgfbkllfaaGreatDoorVaiSc
import Derived.Test.YtaldobgfbkllfaaGreatDoorCards
import Derived.Test.YtaldobgfbkllfaaGreatDoorTie
import Derived.WalkKit
import Derived.ProofKit
import Derived.OpenShut
import Derived.JoinedCond
import Derived.Deep.DeepHandedRow
import Derived.Deep.DeepWitnessRowRef
import Derived.Lib.LaidIn
import Derived.Lib.LaidTab
import Derived.Stop.LaidErr
set_option linter.unusedSimpArgs false
set_option linter.unusedVariables false
set_option linter.unusedSectionVars false
namespace Go.Proofs.YtaldobgfbkllfaaGreatDoor
open Vai P0
set_option maxHeartbeats 0
set_option maxRecDepth 100000
def rdF (L:Int):Nat→Mo→List Tk→Nat→List PT→Option PR
 | 0,_,_,_,_=>none
 | N+1,.br,[],d,out=>some (.er (plc L []) 131)
 | N+1,.br,t::ts,d,out =>
  if sg (t::ts)=bOpen then
   if d<16 then match rdF L N (.lv 6) ts (d+1) out with
    | none=>none
    | some (.er p w)=>some (.er p w)
    | some (.ok v [] out2)=>some (.er (plc L []) 131)
    | some (.ok v (t2::ts2) out2)=>if sg (t2::ts2)=bClose then some (.ok v ts2 out2) else some (.er (plc L (t2::ts2)) 131)
   else some (.er t.pos 134)
  else some (.er (plc L (t::ts)) 131)
 | N+1,.ch 0 a n,ts,d,out=>none
 | N+1,.ch (m+1) a n,[],d,out=>some (.ok a [] out)
 | N+1,.ch (m+1) a n,t::ts,d,out =>
  if m=2∧1≤n then some (.ok a (t::ts) out) else match opA (m+1) (sg (t::ts)) with
  | none=>some (.ok a (t::ts) out)
  | some i=>match rdF L N (.lv m) ts d out with
   | none=>none
   | some (.er p w)=>some (.er p w)
   | some (.ok b ts2 out2)=>rdF L N (.ch (m+1) out2.length (n+1)) ts2 d (out2 ++ [nod (6+i) a b 0 t.pos])
 | N+1,.lv 0,[],d,out=>some (.er L 131)
 | N+1,.lv 0,t::ts,d,out =>
  match negA (sg (t::ts)) with
  | some op=>if d<16 then match rdF L N (.lv 0) ts (d+1) out with
    | none=>none
    | some (.er p w)=>some (.er p w)
    | some (.ok v ts2 out2)=>some (.ok out2.length ts2 (out2 ++ [nod op v 0 0 t.pos]))
   else some (.er t.pos 134)
  | none=>match leafA t with
   | some p=>some (.ok out.length ts (out ++ [p]))
   | none=>if t.kind=4 then rdF L N .br (t::ts) d out
    else if t.kind≠1∧t.kind≠2∧t.text=bLen then match rdF L N .br ts d out with
     | none=>none
     | some (.er p w)=>some (.er p w)
     | some (.ok v ts2 out2)=>some (.ok out2.length ts2 (out2 ++ [nod 5 v 0 0 t.pos]))
    else none
 | N+1,.lv (m+1),ts,d,out =>
  if m≤4 then match rdF L N (.lv m) ts d out with
   | none=>none
   | some (.er p w)=>some (.er p w)
   | some (.ok a ts2 out2)=>rdF L N (.ch (m+1) a 0) ts2 d out2
  else if m=5 then match rdF L N (.lv 5) ts d out with
   | none=>none
   | some (.er p w)=>some (.er p w)
   | some (.ok a [] out2)=>some (.ok a [] out2)
   | some (.ok a (t::ts2) out2)=>if sg (t::ts2)=bAsk then
     if d<16 then match rdF L N (.lv 6) ts2 (d+1) out2 with
      | none=>none
      | some (.er p w)=>some (.er p w)
      | some (.ok b [] out3)=>some (.er (plc L []) 131)
      | some (.ok b (t3::ts3) out3)=>if sg (t3::ts3)=bColon then match rdF L N (.lv 6) ts3 (d+1) out3 with
        | none=>none
        | some (.er p w)=>some (.er p w)
        | some (.ok c ts4 out4)=>some (.ok out4.length ts4 (out4 ++ [nod 19 a b c t.pos]))
       else some (.er (plc L (t3::ts3)) 131)
     else some (.er t.pos 134)
    else some (.ok a (t::ts2) out2)
  else none
theorem rdF_ok (L:Int):∀ (N:Nat) (mo:Mo) (ts:List Tk) (d:Nat) (out:List PT) (r:PR),rdF L N mo ts d out=some r→Rd L mo ts d out r:=by
 intro N
 induction N with
 | zero=>intro mo ts d out r h; cases h
 | succ N ih =>
  intro mo ts d out r h
  cases mo with
  | br =>
   cases ts with
   | nil=>simp only [rdF] at h; cases h; exact .br_no (by decide)
   | cons t ts =>
    simp only [rdF] at h;split at h
    · rename_i h1
      split at h
      · rename_i h2
        split at h
        · cases h
        · rename_i p w h3; cases h; exact .br_er h1 h2 (ih _ _ _ _ _ h3)
        · rename_i v out2 h3; cases h; exact .br_cl h1 h2 (ih _ _ _ _ _ h3) (by decide)
        · rename_i v t2 ts2 out2 h3
          split at h
          · rename_i h4; cases h; exact .br_ok h1 h2 (ih _ _ _ _ _ h3) h4
          · rename_i h4; cases h; exact .br_cl h1 h2 (ih _ _ _ _ _ h3) h4
      · rename_i h2; cases h; exact .br_deep h1 (by omega)
    · rename_i h1; cases h; exact .br_no h1
  | ch l a n =>
   cases l with
   | zero=>simp only [rdF] at h; cases h
   | succ m =>
    cases ts with
    | nil=>simp only [rdF] at h; cases h; exact .ch_end (.inr opA_no)
    | cons t ts =>
      simp only [rdF] at h;split at h
      · rename_i h1; cases h; exact .ch_end (.inl h1)
      rename_i h1;split at h
      · rename_i h2; cases h; exact .ch_end (.inr h2)
      · rename_i i h2
        split at h
        · cases h
        · rename_i p w h3; cases h; exact .ch_er h1 h2 (ih _ _ _ _ _ h3)
        · rename_i b ts2 out2 h3; exact .ch_ok h1 h2 (ih _ _ _ _ _ h3) (ih _ _ _ _ _ h)
  | lv l =>
   cases l with
   | zero =>
    cases ts with
    | nil=>simp only [rdF] at h; cases h; exact .un_nil
    | cons t ts =>
      simp only [rdF] at h;split at h
      · rename_i op h1
        split at h
        · rename_i h2
          split at h
          · cases h
          · rename_i p w h3; cases h; exact .un_er h1 h2 (ih _ _ _ _ _ h3)
          · rename_i v ts2 out2 h3; cases h; exact .un_ok h1 h2 (ih _ _ _ _ _ h3)
        · rename_i h2; cases h; exact .un_deep h1 (by omega)
      · rename_i h1
        split at h
        · rename_i p h2; cases h; exact .un_leaf h1 h2
        · rename_i h2
          split at h
          · rename_i h3; exact .un_br h1 h3 (ih _ _ _ _ _ h)
          · rename_i h3
            split at h
            · rename_i h4
              split at h
              · cases h
              · rename_i p w h5; cases h; exact .len_er h4.1 h4.2.1 h3 h4.2.2 (ih _ _ _ _ _ h5)
              · rename_i v ts2 out2 h5; cases h; exact .len_ok h4.1 h4.2.1 h3 h4.2.2 (ih _ _ _ _ _ h5)
            · cases h
   | succ m =>
    simp only [rdF] at h;split at h
    · rename_i h1
      split at h
      · cases h
      · rename_i p w h3; cases h; exact .lv_er h1 (ih _ _ _ _ _ h3)
      · rename_i a ts2 out2 h3; exact .lv_ok h1 (ih _ _ _ _ _ h3) (ih _ _ _ _ _ h)
    split at h
    · rename_i h0 h1
      subst h1;split at h
      · cases h
      · rename_i p w h3; cases h; exact .fo_er (ih _ _ _ _ _ h3)
      · rename_i a out2 h3; cases h; exact .fo_no (ih _ _ _ _ _ h3) (by decide)
      · rename_i a t ts2 out2 h3
        split at h
        · rename_i h4
          split at h
          · rename_i h5
            split at h
            · cases h
            · rename_i p w h6; cases h; exact .fo_b (ih _ _ _ _ _ h3) h4 h5 (ih _ _ _ _ _ h6)
            · rename_i b out3 h6; cases h; exact .fo_cl (ih _ _ _ _ _ h3) h4 h5 (ih _ _ _ _ _ h6) (by decide)
            · rename_i b t3 ts3 out3 h6
              split at h
              · rename_i h7
                split at h
                · cases h
                · rename_i p w h8; cases h; exact .fo_c (ih _ _ _ _ _ h3) h4 h5 (ih _ _ _ _ _ h6) h7 (ih _ _ _ _ _ h8)
                · rename_i c ts4 out4 h8; cases h; exact .fo_ok (ih _ _ _ _ _ h3) h4 h5 (ih _ _ _ _ _ h6) h7 (ih _ _ _ _ _ h8)
              · rename_i h7; cases h; exact .fo_cl (ih _ _ _ _ _ h3) h4 h5 (ih _ _ _ _ _ h6) h7
          · rename_i h5; cases h; exact .fo_deep (ih _ _ _ _ _ h3) h4 (by omega)
        · rename_i h4; cases h; exact .fo_no (ih _ _ _ _ _ h3) h4
    · cases h
end Go.Proofs.YtaldobgfbkllfaaGreatDoor

namespace Go.Proofs.YtaldobgfbkllfaaGreatDoor
open Vai
open Go.ChangeShapes Go.WideShapes Go.ChangeAt Go.RowKit
theorem bulk_one {H:Type}(d:DataW H):1≤Rows.uptoBulk d:=by
 cases d with
 | lit l=>cases l<;>simp [Rows.uptoBulk]
 | _=>simp [Rows.uptoBulk]
def bulk (H:Type):Bulk H where
 b:=Rows.uptoBulk
 bs:=Rows.uptoBulkAll
 str:=fun s=>by simp [Rows.uptoBulk]
 lit:=fun l=>bulk_one _
 nil:=bulk_one _
 slice:=fun e s=>by simp only [Rows.uptoBulk]; omega
 agg:=fun p=>by simp only [Rows.uptoBulk]; omega
 cons:=fun d r=>by simp only [Rows.uptoBulkAll]
theorem own:ownKnob Tryz.prog.godebug=none:=by kernel_rfl
theorem mixed:Tryz.prog.follows .mixedOrders=true:=by kernel_rfl
theorem laid:laidOutB Tryz.prog=true:=by kernel_rfl
theorem bulks_len (l:List T)(h:∀ x∈l,1≤x.bulk):l.length≤T.bulk.bulks l:=by
 induction l with
 | nil=>simp
 | cons x l ih =>
  have h1:=h x List.mem_cons_self;have h2:=ih fun y hy=>h y (List.mem_cons_of_mem _ hy)
  simp only [T.bulk.bulks,List.length_cons];omega
theorem has_str {x:T}(h:Sh.str.has x):∃ s:ByteArray,x = .str s∧s.size≤x.bulk:=by
 obtain ⟨l,⟨s,rfl⟩,h2⟩:=h;simp [Sh.isAgg] at h2;subst h2;exact ⟨s,rfl,by simp [T.bulk]⟩
theorem has_int {k:IntKind}{x:T}(h:(Sh.int k).has x):∃ n,x = .int k n∧k.min≤n∧n≤k.max:=by
 obtain ⟨l,⟨n,rfl,h1⟩,h2⟩:=h;simp [Sh.isAgg] at h2;exact ⟨n,h2.symm,h1⟩
theorem bulk_bs {H:Type}(l:List (DataW H)){n:Nat}(h:Rows.uptoBulkAll l≤n):(bulk H).bs l≤n:=h
theorem small_le {H:Type}{l:List (DataW H)}(hk:Rows.uptoSmall H l=true):(bulk H).bs l≤1048576:=by
 unfold Rows.uptoSmall at hk;exact bulk_bs l (of_decide_eq_true hk)
theorem has_slice {e:Sh}{x:T}(h:(Sh.slice e).has x):x = .nilSlice∨∃ es,x = .slice es∧∀ y∈es,e.has y:=by
 obtain ⟨l,h1,h2⟩:=h;simp only [Sh.isAgg,Bool.false_eq_true,if_false] at h2;subst h2;simp only [Sh.hasL] at h1;rcases h1 with h1|⟨es,h1,h2⟩
 · simp only [List.cons.injEq,and_true] at h1
   exact .inl h1
 · simp only [List.cons.injEq,and_true] at h1
   exact .inr ⟨es,h1,h2⟩
theorem list_dec {α:Type}{enc:α→T}{p:α→Prop}:∀ {es:List T},(∀ y∈es,∃ a,y=enc a∧p a)→∃ l:List α,es=l.map enc∧∀ a∈l,p a
 | [],_=>⟨[],rfl,fun a h=>by cases h⟩
 | y::es,h=>by
  obtain ⟨a,rfl,ha⟩:=h y List.mem_cons_self;obtain ⟨l,rfl,hl⟩:=list_dec (es:=es) fun z hz=>h z (List.mem_cons_of_mem _ hz)
  exact ⟨a::l,rfl,fun b hb=>by
   rcases List.mem_cons.1 hb with rfl|hb
   · exact ha
   · exact hl b hb⟩
theorem has_slice_dec {e:Sh}{x:T}{α:Type}{enc:α→T}{p:α→Prop}(h:(Sh.slice e).has x)(hd:∀ y,e.has y→∃ a,y=enc a∧p a):∃ l:List α,Slice x (l.map enc)∧(∀ a∈l,p a)∧T.bulk.bulks (l.map enc)≤x.bulk:=by
 rcases has_slice h with rfl|⟨es,rfl,hes⟩
 · exact ⟨[],.nil,(fun a h=>by cases h),by simp [T.bulk.bulks]⟩
 · obtain ⟨l,rfl,hl⟩:=list_dec (es:=es) fun y hy=>hd y (hes y hy)
   exact ⟨l,.mk,hl,by simp only [T.bulk]; omega⟩
theorem has_agg {ss:List Sh}{x:T}(h:(Sh.agg ss).has x):∃ l,x = .agg l∧Sh.hasL.hasLs ss l:=by
 obtain ⟨l,h1,h2⟩:=h;simp only [Sh.isAgg,if_true] at h2;exact ⟨l,h2,by simpa [Sh.hasL] using h1⟩
theorem starE : "*" ++ "errors.errorString" = "*errors.errorString" := by decide
theorem rowE (u:TypeId)(h:Tryz.prog.typeName? 3 u=some "*errors.errorString"):u=264 :=
 typeName_ptr_named (nm := "errors.errorString") (by rw [starE]; kernel_rfl) (by kernel_rfl) (by decide) u (by rw [starE]; exact h)
@[reducible] def gl0:GlY where
 blk k:=k=4∨k=5∨k=3
 ok w:=(errOK w 4∧errOK w 5)∧Lib.TabIs Tryz.prog w "internal/strconv.uint64pow10" .u64 Lib.pow10Tab
 stay w w' h ho:=by
  refine ⟨⟨ho.1.1.elim fun ev he=>⟨ev,?_,he.2⟩,ho.1.2.elim fun ev he=>⟨ev,?_,he.2⟩⟩,tab_stay (h 3 (.inr (.inr rfl))) ho.2⟩
  · rw [World.cell?_of_block (h 4 (.inl rfl))]; exact he.1
  · rw [World.cell?_of_block (h 5 (.inr (.inl rfl)))]; exact he.1
 tree _:=none
 trees _ _ _ _ h:=by cases h
 base _ h:=h
theorem cell_ok {W:World}{g:Nat}{v:Value}(hc:W.cell? ⟨g,0,none⟩=some v):g<W.heap.size:=by
 rcases Nat.lt_or_ge g W.heap.size with h'|h'
 · exact h'
 · simp [World.cell?,Array.getElem?_eq_none h'] at hc
theorem laid_glob {W:World}(h:laidMetH Tryz.prog Rows.evalNumbersUptoRow.laid W):gl0.ok W∧∀ k,gl0.blk k→k<W.heap.size:=by
 have hL:laidMet Tryz.prog Rows.evalNumbersUptoRow.laid W:=h;have h3:=hL.tail.tail.tail;obtain ⟨a1,t1,hv1,_⟩:=laid_sentinel (g:=5) h3 (by kernel_rfl) (by kernel_rfl) Tryz.underlying181 rowE Tryz.underlying264 Tryz.underlying266 rfl rfl Tryz.underlying9 (by kernel_rfl) (by kernel_rfl)
 obtain ⟨a0,t0,hv0,_⟩:=laid_sentinel (g:=4) h3.tail (by kernel_rfl) (by kernel_rfl) Tryz.underlying181 rowE Tryz.underlying264 Tryz.underlying266 rfl rfl Tryz.underlying9 (by kernel_rfl) (by kernel_rfl)
 have c1:=World.var?_cell (g:=5) (by kernel_rfl) hv1 0
 have c0:=World.var?_cell (g:=4) (by kernel_rfl) hv0 0
 have ht:Lib.TabIs Tryz.prog W "internal/strconv.uint64pow10" .u64 Lib.pow10Tab:=Lib.tabIs_of_head (g:=3) (t:=225) (e:=170) (n:=20) glob3 (by kernel_rfl) Tryz.underlying225 Tryz.underlying170 (by kernel_rfl) (by kernel_rfl) hL.tail.tail
 have c3:=ht.cell glob3 0 (by decide)
 refine ⟨⟨⟨⟨_,c0,.inr ⟨_,_,rfl⟩⟩,⟨_,c1,.inr ⟨_,_,rfl⟩⟩⟩,ht⟩,?_⟩;rintro k (rfl|rfl|rfl)
 · exact cell_ok c0
 · exact cell_ok c1
 · exact cell_ok c3
noncomputable def laidWorld (os:Os):World :=
 let N:=(World.settled Tryz.prog os).heap.size
 let w0:=World.holding Tryz.prog os ⟨#[.cells #[.string ⟨#[105,110,118,97,108,105,100,32,115,121,110,116,97,120]⟩] 266,.cells #[.string ⟨#[118,97,108,117,101,32,111,117,116,32,111,102,32,114,97,110,103,101]⟩] 266],#[],[]⟩
 let put (h:Array Obj) (g:Nat) (cs:Array Value):Array Obj:=h.modify g fun
  | .cells _ t frozen=>.cells cs t frozen
  | o=>o
 let h0:=put (put w0.heap 4 #[.iface 264 (.pointer (some ⟨N,0,none⟩))]) 5 #[.iface 264 (.pointer (some ⟨N+1,0,none⟩))]
 let h1:=put h0 3 #[.int .u64 1,.int .u64 10,.int .u64 100,.int .u64 1000,.int .u64 10000,.int .u64 100000,.int .u64 1000000,.int .u64 10000000,.int .u64 100000000,.int .u64 1000000000,.int .u64 10000000000,.int .u64 100000000000,.int .u64 1000000000000,.int .u64 10000000000000,.int .u64 100000000000000,.int .u64 1000000000000000,.int .u64 10000000000000000,.int .u64 100000000000000000,.int .u64 1000000000000000000,.int .u64 10000000000000000000]
 let h2:=put h1 6 #[.int .u8 0,.int .u8 1,.int .u8 28,.int .u8 2,.int .u8 29,.int .u8 14,.int .u8 24,.int .u8 3,.int .u8 30,.int .u8 22,.int .u8 20,.int .u8 15,.int .u8 25,.int .u8 17,.int .u8 4,.int .u8 8,.int .u8 31,.int .u8 27,.int .u8 13,.int .u8 23,.int .u8 21,.int .u8 19,.int .u8 16,.int .u8 7,.int .u8 26,.int .u8 12,.int .u8 18,.int .u8 6,.int .u8 11,.int .u8 5,.int .u8 10,.int .u8 9]
 let h3:=put h2 7 #[.int .u8 0,.int .u8 1,.int .u8 56,.int .u8 2,.int .u8 57,.int .u8 49,.int .u8 28,.int .u8 3,.int .u8 61,.int .u8 58,.int .u8 42,.int .u8 50,.int .u8 38,.int .u8 29,.int .u8 17,.int .u8 4,.int .u8 62,.int .u8 47,.int .u8 59,.int .u8 36,.int .u8 45,.int .u8 43,.int .u8 51,.int .u8 22,.int .u8 53,.int .u8 39,.int .u8 33,.int .u8 30,.int .u8 24,.int .u8 18,.int .u8 12,.int .u8 5,.int .u8 63,.int .u8 55,.int .u8 48,.int .u8 27,.int .u8 60,.int .u8 41,.int .u8 37,.int .u8 16,.int .u8 46,.int .u8 35,.int .u8 44,.int .u8 21,.int .u8 52,.int .u8 32,.int .u8 23,.int .u8 11,.int .u8 54,.int .u8 26,.int .u8 40,.int .u8 15,.int .u8 34,.int .u8 20,.int .u8 31,.int .u8 10,.int .u8 25,.int .u8 14,.int .u8 19,.int .u8 9,.int .u8 13,.int .u8 8,.int .u8 7,.int .u8 6]
 { w0 with heap:=h3 }
noncomputable abbrev N0:Nat:=(World.settled Tryz.prog default).heap.size
set_option maxRecDepth 100000 in
theorem laid_met (os:Os)(args:Array Value):laidMet Tryz.prog Rows.evalNumbersUptoRow.laid ((laidWorld os).forCall (fun _ _=>0) ⟨#[],args,[]⟩).memory :=
 (LaidIn.of_run [6,7,3,5,N0+1,4,N0] 8 (by kernel_rfl) (by kernel_rfl) (by kernel_rfl) (by kernel_rfl)).met
end Go.Proofs.YtaldobgfbkllfaaGreatDoor
