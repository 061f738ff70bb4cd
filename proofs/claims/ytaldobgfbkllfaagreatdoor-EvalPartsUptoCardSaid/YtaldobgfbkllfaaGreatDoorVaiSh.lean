import Derived.Test.YtaldobgfbkllfaaGreatDoorVaiSg
import Derived.Test.YtaldobgfbkllfaaGreatDoorVaiSa
import Derived.Test.YtaldobgfbkllfaaGreatDoorVaiSf
import Derived.Test.YtaldobgfbkllfaaGreatDoorVaiSd
import Derived.Test.YtaldobgfbkllfaaGreatDoorVaiE
set_option linter.unusedSimpArgs false
set_option linter.unusedVariables false
set_option linter.unusedSectionVars false
namespace Go.Proofs.YtaldobgfbkllfaaGreatDoor
open Vai
variable [Gl]
set_option maxHeartbeats 0
set_option maxRecDepth 100000
def rtx (s:ByteArray)(fr:Nat):ByteArray × Int × Int × Int:=match txt s fr (fr+1) [] with
 | .ok (o,e)=>if 64<o.length then (noText,0,fr,3) else (⟨o.toArray⟩,(e:Int)+1,0,0)
 | .error (a,w)=>(noText,0,a,w)
def BR (h:H)(d:D)(l:List UInt8):Prop:=(l=[]∧d = .t .nilSlice)∨∃ id,id<h.next∧d = .row id 0 l.length l.length∧h.objs id=some (.row 5 1 ((ub l).map .t))
theorem BR.conv {h:H}{d:D}{l:List UInt8}(hb:BR h d l):convD Tryz.prog h 163 9 d=some (.t (.str ⟨l.toArray⟩)):=by
 rcases hb with ⟨rfl,rfl⟩|⟨id,h1,rfl,h3⟩
 · unfold convD
   simp only [tk163,tk9];simp
 · have he:h.els id l.length=some (5,1,(ub l).map .t):=by simp [H.els,h3,ub]
   have hs:snap h (.row id 0 l.length l.length)=some (.slice (ub l)):=by
    rw [snap_def,snapF_row,he];simp only [Nat.zero_add,List.length_map,ub_len,Nat.le_refl,if_true,List.drop_zero];rw [show ((ub l).map D.t).take l.length=(ub l).map D.t from List.take_of_length_le (by simp [ub]),snapF_map]
    rfl
   unfold convD;simp only [tk163,tk9,hs];simp [byteOf_ub]
def TR (h:H)(d:D)(l:List Tk):Prop:=(l=[]∧d = .t .nilSlice)∨∃ id,id<h.next∧d = .row id 0 l.length l.length∧h.objs id=some (.row 134 4 ((l.map Tk.t).map .t))
end Go.Proofs.YtaldobgfbkllfaaGreatDoor

namespace Vai
open Go
end Vai
namespace Go.Proofs.YtaldobgfbkllfaaGreatDoor
open Vai
variable [Gl]
set_option maxHeartbeats 0
set_option maxRecDepth 100000
def RB (h:H)(d:D)(l:List Tk):Prop:=TR h d l∧h.marks=[]∧0<h.next∧h.objs 0=some (flt 0 0)
end Go.Proofs.YtaldobgfbkllfaaGreatDoor

namespace Go.Proofs.YtaldobgfbkllfaaGreatDoor
open Vai
variable [Gl]
set_option maxHeartbeats 0
set_option maxRecDepth 100000
theorem row_snap {h:H}{id n:Nat}{bt:TypeId}{s:Nat}{ts:List T}(ho:h.objs id=some (.row bt s (ts.map .t)))(hn:ts.length=n):Vai.snap h (.row id 0 n n)=some (.slice ts):=by
 have he:h.els id n=some (bt,s,ts.map .t):=by simp [H.els,ho,hn]
 rw [snap_def,snapF_row,he];simp only [Nat.zero_add,List.length_map,hn,Nat.le_refl,if_true,List.drop_zero];rw [List.take_of_length_le (by simp [hn]),snapF_map]
 rfl
theorem TR.snap {h:H}{d:D}{l:List Tk}(ht:TR h d l):∃ x,Vai.snap h d=some x∧Slice x (l.map Tk.t):=by
 rcases ht with ⟨rfl,rfl⟩|⟨id,h1,rfl,h3⟩
 · exact ⟨.nilSlice,rfl,Slice.nil⟩
 · exact ⟨_,row_snap h3 (by simp),.inr rfl⟩
theorem TB.tr {n:Nat}{h:H}{d:D}{l:List Tk}(ht:TB n h l d):TR h d l:=by
 rcases ht with ht|⟨id,h1,h2,h3,h4⟩
 · exact .inl ht
 · exact .inr ⟨id,h2,h3,by rw [List.map_map]; exact h4⟩
theorem c39 {c:FuncId}(s:ByteArray)(hs:s.size≤1000000000)(hm:md c 39 = .pure):∃ x,Slice x ((lexS s).1.map Tk.t)∧∀ h,callD (cx.at c) (call cx prim) 39 [.t (.str s)] h=some (.tup [.t x,.t (.int .i64 (lexS s).2.1),.t (.int .i64 (lexS s).2.2)],h):=by
 obtain ⟨d,h',q,_,ht⟩:=s39 (h:=.empty) rfl s hs;obtain ⟨x,hx,hsl⟩:=ht.tr.snap;exact ⟨x,hsl,fun h=>pureT cb39 hm q (by simp only [snapOut,allM,hx,snap_t]; rfl) rfl⟩
theorem toks_len {s:ByteArray}{i:Nat}{l:List Tk}:∀ {m},toks s i l = .ok m→l.length≤i→m.length≤i∨m.length≤s.size:=by
 fun_induction toks s i l with
 | case1 i l h=>intro m e hl; cases e; exact .inl hl
 | case2=>intro m e hl; cases e
 | case3 i l h1 t j ht h2 ih =>
  intro m e hl;have hgt:=tok1_gt (by omega) ht
  have hge:=runTo_ge blankB s i;have:=ih e (by simp; omega)
  omega
 | case4=>intro m e hl; cases e; exact .inl hl
theorem lexS_len (s:ByteArray):(lexS s).1.length≤256:=by
 unfold lexS;split
 · simp
 split
 · simp
 split
 · rename_i l h
   have:=toks_len h (by simp)
   simp only;omega
 · simp
end Go.Proofs.YtaldobgfbkllfaaGreatDoor

namespace Go.Proofs.YtaldobgfbkllfaaGreatDoor.P0
open Vai
variable [Gl]
set_option maxHeartbeats 0
set_option maxRecDepth 100000
def psO (s:ByteArray)(x:T)(d:Int)(o:D):AObj:=.row 85 4 [mkAgg [.t (.str s),.t x,.t (.int .i64 d),o]]
section
variable {s:ByteArray}{x:T}{d:Int}{o:D}{h:H}{P:Nat}(ho:h.objs P=some (psO s x d o))
include ho
theorem ps_0:loadD Tryz.prog h 9 (.ptr P 0 0 1)=some (.t (.str s)):=by simp [-mkAgg,loadD,H.els,ho,psO,wholeArr,partD,mkAgg_cells]
theorem ps_1 (hx:∃ l,Slice x l):loadD Tryz.prog h 80 (.ptr P 0 1 1)=some (.t x):=by
 obtain ⟨l,⟨rfl,_⟩|rfl⟩:=hx<;>simp [-mkAgg,loadD,H.els,ho,psO,wholeArr,partD,mkAgg_cells]
theorem ps_els:(h.els P 1)=some (85,4,[mkAgg [.t (.str s),.t x,.t (.int .i64 d),o]]):=by simp [H.els,ho,psO]
theorem ps_nil:nilCheckD h (.ptr P 0 0 1)=some (.ptr P 0 0 1):=by simp only [nilCheckD,ps_els ho]
theorem ps_f0:fieldAddrD Tryz.prog h 85 (.ptr P 0 0 1) 0=some (.ptr P 0 0 1):=by simp [-H.els,fieldAddrD,ps_els ho]
theorem ps_f1:fieldAddrD Tryz.prog h 85 (.ptr P 0 0 1) 1=some (.ptr P 0 1 1):=by simp [-H.els,fieldAddrD,ps_els ho]
theorem ps_f2:fieldAddrD Tryz.prog h 85 (.ptr P 0 0 1) 2=some (.ptr P 0 2 1):=by simp [-H.els,fieldAddrD,ps_els ho]
theorem ps_f3:fieldAddrD Tryz.prog h 85 (.ptr P 0 0 1) 3=some (.ptr P 0 3 1):=by simp [-H.els,fieldAddrD,ps_els ho]
end
section
variable {s:ByteArray}{x:T}{d:Int}{o:D}{h:H}{P:Nat}(ho:h.objs P=some (psO s x d o))(hx:x.cells=[x])
include ho hx
theorem ps_2:loadD Tryz.prog h 3 (.ptr P 0 2 1)=some (.t (.int .i64 d)):=by simp [-mkAgg,loadD,H.els,ho,psO,wholeArr,partD,mkAgg_cells,hx]
theorem ps_3:loadD Tryz.prog h 22 (.ptr P 0 3 1)=some o:=by simp [-mkAgg,loadD,H.els,ho,psO,wholeArr,partD,mkAgg_cells,hx]
theorem ps_s2 (e:Int):storeD Tryz.prog h 3 (.ptr P 0 2 1) (.t (.int .i64 e))=some (h.set P (psO s x e o)):=by
 have hm:h.mays P [D.t (.int .i64 e)]=true:=mays_trees h P [.int .i64 e];simp [-mkAgg,-H.els,-H.mays,storeD,ps_els ho,hm,okCells,wholeArr,mkAgg_cells,mkAgg_parts,splice,psO,hx]
theorem ps_s1 {y:T}(hy:y.cells=[y]):storeD Tryz.prog h 80 (.ptr P 0 1 1) (.t y)=some (h.set P (psO s y d o)):=by
 have hm:h.mays P [D.t y]=true:=mays_trees h P [y];simp [-mkAgg,-H.els,-H.mays,storeD,ps_els ho,hm,okCells,wholeArr,mkAgg_cells,mkAgg_parts,splice,psO,hx,hy]
theorem ps_s3 {o':D}(hd:o'.cells=[o'])(hm:h.may P o'=true):storeD Tryz.prog h 22 (.ptr P 0 3 1) o'=some (h.set P (psO s x d o')):=by
 have hm':h.mays P [o']=true:=by simp only [H.mays,List.all_cons,hm,List.all_nil,Bool.and_self]
 simp [-mkAgg,-H.els,-H.mays,-H.may,storeD,ps_els ho,hd,hm',okCells,wholeArr,mkAgg_cells,mkAgg_parts,splice,psO,hx]
end
theorem Slice.cells {x:T}{l:List T}(h:Slice x l):x.cells=[x]:=by
 rcases h with ⟨rfl,_⟩|rfl<;>rfl
section
variable {h:H}{t:Tk}
theorem tkl:(Tk.t t).cells.length=4:=rfl
theorem tf0:fieldAddrD Tryz.prog h 134 (.eptr (Tk.t t) 0) 0=some (.eptr (Tk.t t) 0):=by simp [Tk.t]
theorem tf1:fieldAddrD Tryz.prog h 134 (.eptr (Tk.t t) 0) 1=some (.eptr (Tk.t t) 1):=by simp [Tk.t]
theorem tf3:fieldAddrD Tryz.prog h 134 (.eptr (Tk.t t) 0) 3=some (.eptr (Tk.t t) 3):=by simp [Tk.t]
theorem tl0:loadD Tryz.prog h 3 (.eptr (Tk.t t) 0)=some (.t (.int .i64 t.kind)):=by simp [Tk.t]
theorem tl1:loadD Tryz.prog h 9 (.eptr (Tk.t t) 1)=some (.t (.str t.text)):=by simp [Tk.t]
theorem tl3:loadD Tryz.prog h 3 (.eptr (Tk.t t) 3)=some (.t (.int .i64 t.pos)):=by simp [Tk.t]
end
theorem slice_cons {x:T}{t:Tk}{ts:List Tk}(hx:Slice x ((t::ts).map Tk.t)):x = .slice ((t::ts).map Tk.t):=by
 rcases hx with ⟨_,e⟩|e
 · exact absurd e (by simp)
 · exact e
theorem s125 {s:ByteArray}{x:T}{d:Int}{o:D}{h:H}{P:Nat}{ts:List Tk}(ho:h.objs P=some (psO s x d o))(hx:Slice x (ts.map Tk.t)) :
  call cx prim0 125 [.ptr P 0 0 1] h=some (.t (.str (sg ts)),h):=by
 rw [call_run (cx:=cx) rfl Tryz.func125 ok125 nd125 rfl (lbe rfl) rfl rfl];have f1:=ps_1 ho ⟨_,hx⟩
 cases ts with
 | nil =>
  rcases hx with ⟨rfl,_⟩|rfl <;>
    simp -implicitDefEqProofs (disch:=omega) [-fieldAddrD,-nilCheckD,ps_nil ho,ps_f1 ho,f1,sg,noText]
 | cons t ts =>
  obtain rfl:=slice_cons hx;by_cases h3:3≤t.kind
  · simp -implicitDefEqProofs (disch:=omega) [-fieldAddrD,-nilCheckD,-load_eptr,ps_nil ho,ps_f1 ho,f1,sg,h3,tkl,tf0,tf1,tl0,tl1]
  · simp -implicitDefEqProofs (disch:=omega) [-fieldAddrD,-nilCheckD,-load_eptr,ps_nil ho,ps_f1 ho,f1,sg,h3,tkl,tf0,tf1,tl0,tl1,noText]
theorem s76 {s:ByteArray}{x:T}{d:Int}{o:D}{h:H}{P:Nat}{ts:List Tk}(ho:h.objs P=some (psO s x d o))(hx:Slice x (ts.map Tk.t)) :
  call cx prim0 76 [.ptr P 0 0 1] h=some (.t (.int .i64 (plc s.size ts)),h):=by
 rw [call_run (cx:=cx) rfl Tryz.func76 ok76 nd76 rfl (lbe rfl) rfl rfl];have f1:=ps_1 ho ⟨_,hx⟩;have f0:=ps_0 ho
 cases ts with
 | nil =>
  rcases hx with ⟨rfl,_⟩|rfl <;>
   simp -implicitDefEqProofs (disch:=omega) [-fieldAddrD,-nilCheckD,-load_ptr,ps_nil ho,ps_f1 ho,f1,ps_f0 ho,f0,plc]
 | cons t ts =>
  obtain rfl:=slice_cons hx;have e1:¬ ((ts.length:Int)+1=0):=by omega
  simp -implicitDefEqProofs (disch:=omega) [-fieldAddrD,-nilCheckD,-load_ptr,-load_eptr,ps_nil ho,ps_f1 ho,f1,plc,tkl,tf3,tl3,e1]
theorem c125 {c:FuncId}{s:ByteArray}{x:T}{d:Int}{o:D}{h:H}{P:Nat}{ts:List Tk}(ho:h.objs P=some (psO s x d o))(hx:Slice x (ts.map Tk.t))(hm:md c 125 = .keep) :
 callD (cx.at c) (call cx prim0) 125 [.ptr P 0 0 1] h=some (.t (.str (sg ts)),h):=keepT cb125 hm (s125 ho hx)
theorem c76 {c:FuncId}{s:ByteArray}{x:T}{d:Int}{o:D}{h:H}{P:Nat}{ts:List Tk}(ho:h.objs P=some (psO s x d o))(hx:Slice x (ts.map Tk.t))(hm:md c 76 = .keep) :
 callD (cx.at c) (call cx prim0) 76 [.ptr P 0 0 1] h=some (.t (.int .i64 (plc s.size ts)),h):=keepT cb76 hm (s76 ho hx)
theorem mkI (t:TypeId)(x:T):mkIface t (.t x) = .t (.iface t x):=rfl
theorem sl_tk (h:H)(t:Tk)(ts:List Tk):sliceD Tryz.prog h 80 (.t (.slice ((t::ts).map Tk.t))) (some (.t (.int .i64 1))) none none=some (.t (.slice (ts.map Tk.t))):=by
 have hall:allSz 4 ((t::ts).map Tk.t)=true:=by simp [allSz,tkl]
 have e1:(1:Int)≤((t::ts).map Tk.t).length:=by simp; omega
 have hd:boundD (some (.t (.int .i64 1)))=some (some (1:Int)):=rfl;have hn:boundD none=some none:=rfl;simp only [sliceD,hd,hn,tk80,sz134,Option.getD_some,Option.getD_none,hall];rw [if_pos ⟨by omega,e1,Int.le_refl _,.inr trivial⟩]
 simp [List.take_of_length_le]
def fau (p w:Int):T:=.iface 87 (.agg [.int .i64 p,.int .i64 w])
theorem s126_no {s:ByteArray}{x:T}{d:Int}{o:D}{h:H}{P:Nat}{ts:List Tk}(ho:h.objs P=some (psO s x d o))(hx:Slice x (ts.map Tk.t)){y:ByteArray}(hy:sg ts≠y) :
  call cx prim0 126 [.ptr P 0 0 1,.t (.str y)] h=some (.pan (fau (plc s.size ts) 131),h):=by
 rw [call_run (cx:=cx) rfl Tryz.func126 ok126 nd126 rfl (lbe rfl) rfl rfl];have f1:=c76 (c:=126) ho hx rfl;have f2:=c125 (c:=126) ho hx rfl;simp -implicitDefEqProofs (disch:=omega) [f1,f2,eqS,hy,fau,mkI]
theorem s126 {s:ByteArray}{x:T}{d:Int}{o:D}{h:H}{P:Nat}{t:Tk}{ts:List Tk}(ho:h.objs P=some (psO s x d o))(hx:Slice x ((t::ts).map Tk.t)){y:ByteArray}(hy:sg (t::ts)=y) :
  call cx prim0 126 [.ptr P 0 0 1,.t (.str y)] h=some (.t (.int .i64 t.pos),h.set P (psO s (.slice (ts.map Tk.t)) d o)):=by
 rw [call_run (cx:=cx) rfl Tryz.func126 ok126 nd126 rfl (lbe rfl) rfl rfl];have f1:=c76 (c:=126) ho hx rfl;have f2:=c125 (c:=126) ho hx rfl;have f3:=ps_1 ho ⟨_,hx⟩;have f4:=ps_s1 ho (Slice.cells hx) (y:=.slice (ts.map Tk.t)) rfl;obtain rfl:=slice_cons hx;simp only [plc] at f1;simp -implicitDefEqProofs (disch:=omega) [-fieldAddrD,-nilCheckD,-load_ptr,-load_eptr,-storeD,ps_nil ho,ps_f1 ho,f1,f2,f3,f4,hy,eqS,←List.map_cons,sl_tk,-List.map_cons]
theorem s127 {s:ByteArray}{x:T}{d:Nat}{o:D}{h:H}{P:Nat}(ho:h.objs P=some (psO s x d o))(hx:x.cells=[x])(hd:d<16)(p:Int) :
  call cx prim0 127 [.ptr P 0 0 1,.t (.int .i64 p)] h=some (.tup [],h.set P (psO s x (d+1:Nat) o)):=by
 rw [call_run (cx:=cx) rfl Tryz.func127 ok127 nd127 rfl (lbe rfl) rfl rfl];have f2:=ps_2 ho hx;have f3:=ps_s2 ho hx ((d:Int)+1);have ho2:(h.set P (psO s x ((d:Int)+1) o)).objs P=some (psO s x ((d:Int)+1) o):=by simp
 have f4:=ps_2 ho2 hx;have e1:¬ (16<(d:Int)+1):=by omega
 simp -implicitDefEqProofs (disch:=omega) [-fieldAddrD,-nilCheckD,-load_ptr,-load_eptr,-storeD,ps_nil ho,ps_f2 ho,f2,f3,f4,ps_nil ho2,ps_f2 ho2,e1]
theorem s127_no {s:ByteArray}{x:T}{d:Nat}{o:D}{h:H}{P:Nat}(ho:h.objs P=some (psO s x d o))(hx:x.cells=[x])(hd:16≤d)(hd2:d≤1000)(p:Int) :
  call cx prim0 127 [.ptr P 0 0 1,.t (.int .i64 p)] h=some (.pan (fau p 134),h.set P (psO s x (d+1:Nat) o)):=by
 rw [call_run (cx:=cx) rfl Tryz.func127 ok127 nd127 rfl (lbe rfl) rfl rfl];have f2:=ps_2 ho hx;have f3:=ps_s2 ho hx ((d:Int)+1);have ho2:(h.set P (psO s x ((d:Int)+1) o)).objs P=some (psO s x ((d:Int)+1) o):=by simp
 have f4:=ps_2 ho2 hx;have e1:(16<(d:Int)+1):=by omega
 simp -implicitDefEqProofs (disch:=omega) [-fieldAddrD,-nilCheckD,-load_ptr,-load_eptr,-storeD,ps_nil ho,ps_f2 ho,f2,f3,f4,ps_nil ho2,ps_f2 ho2,e1,fau,mkI]
end Go.Proofs.YtaldobgfbkllfaaGreatDoor.P0
