import Derived.Test.YtaldobgfbkllfaaGreatDoorVaiSp
import Derived.Test.YtaldobgfbkllfaaGreatDoorVaiSo
import Derived.KernelRfl
import Derived.Test.YtaldobgfbkllfaaGreatDoorVaiSm
set_option linter.unusedSimpArgs false
set_option linter.unusedVariables false
set_option linter.unusedSectionVars false
namespace Go.Proofs.YtaldobgfbkllfaaGreatDoor
open Vai P0
set_option maxHeartbeats 0
set_option maxRecDepth 100000
def badF (out:List PT)(ds:List DV):Option (Int × Int):=match (List.range out.length).find? fun k=>goodK out ds k && !goodK out ds (k+1) with
 | some k=>match out[k]? with
  | some x=>some (x.at_,if x.k=2 then 133 else 132)
  | none=>none
 | none=>none
def parF (s:ByteArray)(ds:List DV):Option (List PT × Int × Int) :=
 if (lexS s).2.2=0 then match rdF s.size 1000 (.lv 6) (lexS s).1 0 [] with
  | none=>none
  | some r=>if (fauA r).2=0 then match r with
    | .ok _ [] out=>if goodK out ds out.length=true then some (out,0,0) else match badF out ds with
     | some (p,w)=>some ([],p,w)
     | none=>none
    | _=>none
   else some ([],(fauA r).1,(fauA r).2)
 else some ([],(lexS s).2.1,(lexS s).2.2)
theorem badF_ok {out:List PT}{ds:List DV}{p w:Int}(h:badF out ds=some (p,w)):BadAt out ds p w:=by
 unfold badF at h;split at h
 · rename_i k hk
   split at h
   · rename_i x hx
     cases h;have:=List.find?_some hk;simp only [Bool.and_eq_true,Bool.not_eq_true'] at this;exact ⟨k,x,hx,this.1,this.2,rfl,rfl⟩
   · cases h
 · cases h
theorem parF_ok {s:ByteArray}{ds:List DV}{ps:List PT}{p w:Int}(h:parF s ds=some (ps,p,w)):∃ r,Rd s.size (.lv 6) (lexS s).1 0 [] r∧ParseBy s ds r ps p w:=by
 unfold parF at h;split at h
 · rename_i h0
   split at h
   · cases h
   · rename_i r hr
     have hrd:=rdF_ok _ _ _ _ _ _ _ hr;refine ⟨r,hrd,.inr ⟨h0,?_⟩⟩;split at h
     · rename_i hf
       split at h
       · rename_i v out
         right;refine ⟨v,out,rfl,?_⟩;split at h
         · rename_i hg; cases h; exact .inl ⟨hg,rfl,rfl,rfl⟩
         · split at h
           · rename_i p' w' hb; cases h; exact .inr ⟨badF_ok hb,rfl⟩
           · cases h
       · cases h
     · rename_i hf; cases h; exact .inl ⟨hf,rfl,rfl,rfl⟩
 · rename_i h0
   cases h;obtain ⟨r,hr⟩:=rd_any s;exact ⟨r,hr,.inl ⟨h0,rfl,rfl,rfl⟩⟩
section
variable [Gl]
theorem c20f {c:FuncId}{s:ByteArray}{y:T}{ds:List DV}{ps:List PT}{p w:Int}(hs:s.size≤1000000000)(hy:Slice y (ds.map decT))(hlD:ds.length≤2000000)(hp:parF s ds=some (ps,p,w))(hm:md c 20 = .pure) :
  ∃ x,Slice x (ps.map prP)∧∀ h,callD (cx.at c) (call cx prim) 20 [.t (.str s),.t y] h=some (.tup [.t x,.t (iv p),.t (iv w)],h):=by
 obtain ⟨r,hr,hb⟩:=parF_ok hp;obtain ⟨ps',p',w',x,hb',hx,q⟩:=c20r (c:=c) hs hy hlD hr hm;obtain ⟨rfl,rfl,rfl⟩:=parse_fun hb hb';exact ⟨x,hx,q⟩
end
def kb (k:Nat):ByteArray:=if 10<k then ⟨#[116]⟩ else ⟨#[105]⟩
def sgB (k:Nat):ByteArray:=sgn.getD k noText
def dsB:List DV:=[(⟨#[105]⟩,1),(⟨#[116]⟩,2)]
def txB (l m r:ByteArray)(x y:Nat):ByteArray:=l ++ ⟨#[32]⟩++sgB x ++ ⟨#[32]⟩++m ++ ⟨#[32]⟩++sgB y ++ ⟨#[32]⟩++r
def tx0 (x y:Nat):ByteArray:=⟨#[105,32]⟩++sgB x ++ ⟨#[32,105,32]⟩++sgB y ++ ⟨#[32,105]⟩
def txF (x y:Nat):ByteArray:=txB (kb x) (if lev x≤lev y then kb x else kb y) (kb y) x y
def chkB (x y:Nat):Bool :=
 if lev x=3∧lev y=3 then match parF (tx0 x y) dsB with
  | some (_,_,w)=>decide (w=131)
  | none=>false
 else match parF (txF x y) dsB with
  | some (ps,_,w)=>if w=0 then match ps with
    | [a,b,c,d,e]=>if lev x≤lev y then decide (e.k=6+y)&&(match [a,b,c,d,e][e.a.toNat]? with|some z=>decide (z.k=6+x)|none=>false)&&decide (0≤e.a)
     else decide (e.k=6+x)&&(match [a,b,c,d,e][e.b.toNat]? with|some z=>decide (z.k=6+y)|none=>false)&&decide (0≤e.b)
    | _=>false
   else decide (w=132)&&ps.isEmpty
  | none=>false
theorem chkAll:((List.range 13).all fun x=>(List.range 13).all fun y=>chkB x y)=true:=by kernel_rfl
theorem chk_at {x y:Nat}(hx:x<13)(hy:y<13):chkB x y=true:=by
 have:=List.all_eq_true.1 chkAll x (List.mem_range.2 hx);exact List.all_eq_true.1 this y (List.mem_range.2 hy)
end Go.Proofs.YtaldobgfbkllfaaGreatDoor

namespace Go.Proofs.YtaldobgfbkllfaaGreatDoor
open Vai
variable [Gl]
set_option maxHeartbeats 0
set_option maxRecDepth 100000
def rsO (L:Int)(x:T)(i d:Int)(o:D)(p w:Int):AObj:=.row 101 7 [mkAgg [.t (.int .i64 L),.t x,.t (.int .i64 i),.t (.int .i64 d),o,.t (.int .i64 p),.t (.int .i64 w)]]
section
variable {L:Int}{x:T}{i d p w:Int}{o:D}{h:H}{P:Nat}(ho:h.objs P=some (rsO L x i d o p w))
include ho
theorem rs_els:(h.els P 1)=some (101,7,[mkAgg [.t (.int .i64 L),.t x,.t (.int .i64 i),.t (.int .i64 d),o,.t (.int .i64 p),.t (.int .i64 w)]]):=by simp [H.els,ho,rsO]
theorem rs_nil:nilCheckD h (.ptr P 0 0 1)=some (.ptr P 0 0 1):=by simp only [nilCheckD,rs_els ho]
theorem rs_f5:fieldAddrD Tryz.prog h 101 (.ptr P 0 0 1) 5=some (.ptr P 0 5 1):=by simp [-H.els,fieldAddrD,rs_els ho]
end
section
variable {L:Int}{x:T}{i d p w:Int}{o:D}{h:H}{P:Nat}(ho:h.objs P=some (rsO L x i d o p w))(hx:x.cells=[x])(hd:o.cells=[o])
include ho hx
include hd
theorem rs_6:loadD Tryz.prog h 3 (.ptr P 0 6 1)=some (.t (.int .i64 w)):=by simp [-mkAgg,loadD,H.els,ho,rsO,wholeArr,partD,mkAgg_cells,hx,hd]
theorem rs_s5 (p' w':Int):storeD Tryz.prog h 64 (.ptr P 0 5 1) (.t (.agg [.int .i64 p',.int .i64 w']))=some (h.set P (rsO L x i d o p' w')):=by
 have hm:h.mays P [D.t (.int .i64 p'),D.t (.int .i64 w')]=true:=mays_trees h P [.int .i64 p',.int .i64 w'];simp [-mkAgg,-H.els,-H.mays,storeD,rs_els ho,hm,okCells,wholeArr,mkAgg_cells,mkAgg_parts,splice,rsO,hx,hd]
theorem rs_f51:fieldAddrD Tryz.prog h 64 (.ptr P 0 5 1) 1=some (.ptr P 0 6 1):=by simp [-H.els,fieldAddrD,rs_els ho]
end
theorem s51 {L:Int}{x:T}{i d p w:Int}{o:D}{h:H}{P:Nat}(ho:h.objs P=some (rsO L x i d o p w))(hx:x.cells=[x])(hd:o.cells=[o])(p' w':Int) :
   call cx prim 51 [.ptr P 0 0 1,.t (.int .i64 p'),.t (.int .i64 w')] h=some (.tup [],if w=0 then h.set P (rsO L x i d o p' w') else h):=by
 have f6:=rs_6 ho hx hd;have f51:=rs_f51 ho hx hd;have s5:=rs_s5 ho hx hd p' w';rw [call_run (cx:=cx) rfl Tryz.func51 ok51 nd51 rfl (lbe rfl) rfl rfl];by_cases hw:w=0
 · have e:=eqI_true hw
   simp -implicitDefEqProofs (disch:=omega) [-fieldAddrD,-nilCheckD,-load_ptr,-storeD,rs_nil ho,rs_f5 ho,f6,f51,s5,e,hw]
 · have e:=eqI_false hw
   simp -implicitDefEqProofs (disch:=omega) [-fieldAddrD,-nilCheckD,-load_ptr,-storeD,rs_nil ho,rs_f5 ho,f6,f51,s5,e,hw]
section
variable {L:Int}{x:T}{i:Nat}{d p w:Int}{o:D}{h:H}{P:Nat}{all:List Tk}{c:FuncId}
theorem c51 (ho:h.objs P=some (rsO L x i d o p w))(hx:x.cells=[x])(hd:o.cells=[o])(p' w':Int)(hm:md c 51 = .keep) :
 callD (cx.at c) (call cx prim) 51 [.ptr P 0 0 1,.t (.int .i64 p'),.t (.int .i64 w')] h=some (.tup [],if w=0 then h.set P (rsO L x i d o p' w') else h):=keepT cb51 hm (s51 ho hx hd p' w')
end
def RX (n:Nat)(h:H)(P:Nat)(L:Int)(all:List Tk)(i d:Nat)(out:List PT)(p w:Int):Prop:=n≤P∧P<h.next∧h.marks=[]∧∃ x o,Slice x (all.map Tk.t)∧h.objs P=some (rsO L x i d o p w) ∧
 ((o = .t .nilSlice∧out=[])∨∃ id,n≤id∧id<h.next∧o = .row id 0 out.length out.length∧h.objs id=some (.row 57 9 ((out.map prP).map .t)))
def FrR (n:Nat)(h h':H):Prop:=h.next≤h'.next∧h'.marks=h.marks∧(∀ id,id<n→h'.objs id=h.objs id)
section
variable {n:Nat}{h:H}{P:Nat}{L:Int}{all:List Tk}{i d:Nat}{out:List PT}{p w:Int}{c:FuncId}
end
def RRes (k:FuncId)(xs:List D)(n:Nat)(h:H)(P:Nat)(L:Int)(all:List Tk)(d:Nat):PR→Prop
 | .ok v ts2 out2=>∃ h' i2 p,i2≤all.length∧all.drop i2=ts2∧call cx prim k (.ptr P 0 0 1::xs) h=some (.t (.int .i64 v),h')∧RX n h' P L all i2 d out2 p 0∧FrR n h h'
 | .er p w=>∃ h' v i2 out2,i2≤1000∧call cx prim k (.ptr P 0 0 1::xs) h=some (.t (.int .i64 v),h')∧RX n h' P L all i2 d out2 p w∧FrR n h h'
end Go.Proofs.YtaldobgfbkllfaaGreatDoor

namespace Go.Proofs.YtaldobgfbkllfaaGreatDoor
open Vai
set_option maxHeartbeats 0
set_option maxRecDepth 100000
def sgnT:T:=.agg (sgn.map .str)
def levT:T:=.agg [iv 1,iv 1,iv 1,iv 2,iv 2,iv 3,iv 3,iv 3,iv 3,iv 3,iv 3,iv 4,iv 5]
class GlP extends GlY where
 g0:Gl.tree 0=some sgnT
 g1:Gl.tree 1=some levT
def sgnAt (k:Nat):ByteArray:=sgn.getD k noText
theorem k13 {k:Nat}(h:k<13):k=0∨k=1∨k=2∨k=3∨k=4∨k=5∨k=6∨k=7∨k=8∨k=9∨k=10∨k=11∨k=12:=by omega
theorem ix0 {k:Nat}(hk:k<13)(h:H):indexAddrD Tryz.prog h 61 (.eptr sgnT 0) (.t (.int .i64 k))=some (.eptr sgnT k):=by
 rcases k13 hk with rfl|rfl|rfl|rfl|rfl|rfl|rfl|rfl|rfl|rfl|rfl|rfl|rfl<;>rfl
theorem ld0 {k:Nat}(hk:k<13)(h:H):loadD Tryz.prog h 9 (.eptr sgnT k)=some (.t (.str (sgnAt k))):=by
 rcases k13 hk with rfl|rfl|rfl|rfl|rfl|rfl|rfl|rfl|rfl|rfl|rfl|rfl|rfl<;>rfl
def isS (ts:List Tk)(m k:Nat):Bool:=decide (lev k=m)&&match ts with
 | []=>false
 | t::_=>decide (t.kind=4)&&decide (t.text=sgnAt k)
def Sgn4 (all:List Tk):Prop:=∀ t∈all,sg [t]∈sgn→t.kind=4
variable [GlP]
def At96 (P m k:Nat)(h:H)(st:St):Prop:=st.n=60∧st.h=h∧st.env 0 = .ptr P 0 0 1∧st.env 1 = .t (.int .i64 m)∧st.env 4 = .t (.int .i64 0)∧st.env 5 = .t (.int .i64 k)
section
variable {n:Nat}{h:H}{P:Nat}{L:Int}{all:List Tk}{i d:Nat}{out:List PT}{p w:Int}{m k:Nat}
end
end Go.Proofs.YtaldobgfbkllfaaGreatDoor
