import Derived.Calls
import Derived.Orders
import Derived.RowKit
import Derived.Below
import Derived.Laws.Rows
import Derived.Laws.AppendOwn
import Derived.Laws.Cells
import Derived.Laws.Strings
import Derived.DataElems
import Derived.WideShapes
import Derived.Sort.Walk0
import Derived.Laws.StructEq
import Derived.Laws.BytesString
import Derived.Great.BuildSlice
set_option linter.unusedSimpArgs false
set_option linter.unusedVariables false
set_option linter.unusedSectionVars false
namespace Vai
theorem lbe {m n:Nat}(h:Nat.ble m n=true):m≤n:=Nat.le_of_ble_eq_true h
open Go
inductive T where
 | int (k:IntKind) (n:Int)
 | bool (b:Bool)
 | str (s:ByteArray)
 | nilSlice|nilPtr|nilMap|nilFunc|nilIface
 | agg (cs:List T)
 | slice (es:List T)
 | iface (t:TypeId) (x:T)
 deriving Inhabited
def T.cells:T→List T
 | .agg cs=>cs
 | x=>[x]
inductive D where
 | undef
 | t (x:T)
 | agg (cs:List D)
 | tup (ds:List D)
 | ptr (id i f top:Nat)
 | eptr (x:T) (f:Nat)
 | row (id i len top:Nat)
 | func (fn:Fn) (first captured:List D)
 | map (id:Nat)
 | iter (id:Nat)
 | iface (t:TypeId) (d:D)
 | pan (x:T)
 deriving Inhabited
def D.cells:D→List D
 | .t x=>x.cells.map .t
 | .agg cs=>cs
 | .undef|.tup _|.pan _=>[]
 | d=>[d]
def D.parts:D→Option (List D)
 | .t (.agg cs)=>some (cs.map .t)
 | .agg cs=>some cs
 | _=>none
def allM {α β:Type}(f:α→Option β):List α→Option (List β)
 | []=>some []
 | x::xs=>match f x with
  | none=>none
  | some y=>match allM f xs with
   | none=>none
   | some ys=>some (y::ys)
def D.isPan:D→Bool
 | .pan _=>true
 | _=>false
def D.toT:D→Option T
 | .t x=>some x
 | _=>none
def mkAgg (ds:List D):D:=match allM D.toT ds with
 | some ts=>.t (.agg ts)
 | none=>.agg ds
def mkIface (t:TypeId):D→D
 | .t x=>.t (.iface t x)
 | d=>.iface t d
def D.refsB (n:Nat):D→Bool
 | .undef|.t _|.eptr _ _|.pan _=>true
 | .agg ds=>refsL n ds
 | .tup ds=>refsL n ds
 | .ptr id _ _ _=>decide (id<n)
 | .row id _ _ _=>decide (id<n)
 | .func _ fs cs=>refsL n fs&&refsL n cs
 | .map id=>decide (id<n)
 | .iter id=>decide (id<n)
 | .iface _ d=>D.refsB n d
where refsL (n:Nat):List D→Bool
 | []=>true
 | d::ds=>D.refsB n d&&refsL n ds
inductive AObj where
 | row (bt:TypeId) (s:Nat) (es:List D)
 | map (ents:List (T × D × Nat)) (clock:Nat)
 | iter (s:ByteArray) (pos:Nat)
 deriving Inhabited
def AObj.refsB (n:Nat):AObj→Bool
 | .row _ _ es=>es.all (D.refsB n)
 | .map ents _=>ents.all fun e=>e.2.1.refsB n
 | .iter _ _=>true
def upd {α:Type}(f:Nat→α)(i:Nat)(x:α):Nat→α:=fun j=>if j=i then x else f j
structure H where
 objs:Nat→Option AObj
 next:Nat
 marks:List Nat
def H.empty:H:=⟨fun _=>none,0,[]⟩
def H.set (h:H)(id:Nat)(o:AObj):H:={ h with objs:=upd h.objs id (some o) }
def H.push (h:H)(o:AObj):H:={ h with objs:=upd h.objs h.next (some o),next:=h.next+1 }
def H.del (h:H)(id:Nat):H:={ h with objs:=upd h.objs id none }
def H.dropTo (h' h:H):H:={ objs:=fun id=>if id<h.next then h'.objs id else none,next:=h.next,marks:=h.marks }
def H.may (h:H)(id:Nat)(d:D):Bool:=h.marks.all fun mk=>!decide (id<mk)||d.refsB mk
def H.mays (h:H)(id:Nat)(ds:List D):Bool:=ds.all (h.may id)
inductive TK where
 | int (k:IntKind)|bool|str|slice (e:TypeId)|array (n:Nat) (e:TypeId)|struct (fs:List (Nat × TypeId))
 | ptr (e:TypeId)|map (k e:TypeId)|func|iface|other
 deriving Inhabited
def TK.of:TypeDesc→TK
 | .int k=>.int k
 | .bool=>.bool
 | .string=>.str
 | .slice e=>.slice e
 | .array n e=>.array n e
 | .struct fs=>.struct (fs.toList.map fun f=>(f.offset,f.type))
 | .pointer e=>.ptr e
 | .map k e=>.map k e
 | .func ..=>.func
 | .interface _=>.iface
 | _=>.other
def canon {α:Type}(f:Program→Nat→α)(P:Program)(t:Nat):α:=match P with
 | ⟨tb,fs⟩=>match t with
  | 0=>f ⟨tb,fs⟩ 0
  | n+1=>f ⟨tb,fs⟩ (n+1)
theorem canon_eq {α:Type}(f:Program→Nat→α)(P:Program)(t:Nat):canon f P t=f P t:=by
 obtain ⟨tb,fs⟩:=P;cases t<;>rfl
def tk0 (P:Program)(t:TypeId):TK:=match P.underlying t with
 | some d=>.of d
 | none=>.other
def tk (P:Program)(t:TypeId):TK:=canon tk0 P t
theorem tk_eq (P:Program)(t:TypeId):tk P t=tk0 P t:=canon_eq _ _ _
def TK.isAgg:TK→Bool
 | .struct _|.array _ _=>true
 | _=>false
def TK.form:TK→Nat
 | .other=>0
 | .struct _|.array _ _=>1
 | _=>2
def sz0 (P:Program)(t:TypeId):Option Nat:=(P.info? t).map (·.size)
def byt0 (P:Program)(t:TypeId):Option Nat:=(P.info? t).map (·.bytes)
def sz (P:Program)(t:TypeId):Option Nat:=canon sz0 P t
def byt (P:Program)(t:TypeId):Option Nat:=canon byt0 P t
theorem sz_eq (P:Program)(t:TypeId):sz P t=sz0 P t:=canon_eq _ _ _
theorem byt_eq (P:Program)(t:TypeId):byt P t=byt0 P t:=canon_eq _ _ _
def scalarT:Value→Option T
 | .int k n=>some (.int k n)
 | .bool b=>some (.bool b)
 | .string s=>some (.str s)
 | .pointer none=>some .nilPtr
 | .slice none 0 0=>some .nilSlice
 | .map none=>some .nilMap
 | .nilFunc=>some .nilFunc
 | .nilIface=>some .nilIface
 | _=>none
def T.ofVal:Value→Option T
 | .agg cs=>(allM scalarT cs.toList).map .agg
 | v=>scalarT v
def zeroT0 (P:Program)(t:TypeId):Option T:=(P.info? t).bind fun i=>i.zero.bind T.ofVal
def zeroT (P:Program)(t:TypeId):Option T:=canon zeroT0 P t
theorem zeroT_eq (P:Program)(t:TypeId):zeroT P t=zeroT0 P t:=canon_eq _ _ _
class Gl where
 blk:Nat→Prop
 ok:World→Prop
 stay:∀ w w':World,(∀ k,blk k→w'.heap[k]? = w.heap[k]?)→ok w→ok w'
 tree:Nat→Option T
 trees:∀ (w:World) (g:Nat) (x:T),ok w→tree g=some x→blk g∧x.cells≠[]∧∀ (j:Nat) (c:T),x.cells[j]?=some c→∃ v,w.cell? ⟨g,j,none⟩=some v∧scalarT v=some c
instance (priority:=low) noGl:Gl:=⟨fun _=>False,fun _=>True,fun _ _ _ _=>trivial,fun _=>none,fun _ _ _ _ h=>by cases h⟩
def H.els (h:H)(id top:Nat):Option (TypeId × Nat × List D):=match h.objs id with
 | some (.row bt s es)=>if es.length=top then some (bt,s,es) else none
 | _=>none
def snapF (h:H):Nat→D→Option T
 | 0,d=>d.toT
 | n+1,d=>match d with
  | .t x=>some x
  | .agg ds=>(allM (snapF h n) ds).map .agg
  | .row id i len top=>match h.els id top with
   | some (_,_,es)=>if i+len≤es.length then (allM (snapF h n) ((es.drop i).take len)).map .slice else none
   | none=>none
  | .iface t d=>(snapF h n d).map (.iface t)
  | _=>none
def snap (h:H)(d:D):Option T:=snapF h 5 d
def partD (P:Program)(t:TypeId)(cs:List D)(f:Nat):Option D:=match (tk P t).form with
 | 0=>none
 | 1=>match sz P t with
  | some n=>if f+n≤cs.length then some (mkAgg ((cs.drop f).take n)) else none
  | none=>none
 | _=>cs[f]?
def elemAt (h:H)(id i top:Nat):Option D:=match h.els id top with
 | some (_,_,es)=>es[i]?
 | none=>none
def wholeArr (P:Program)(t:TypeId)(i f top s:Nat):Bool:=match tk P t with
 | .array n e=>i == 0&&f == 0&&top == n&&sz P e == some s&&sz P t == some (n*s)
 | _=>false
def loadD (P:Program)(h:H)(t:TypeId):D→Option D
 | .ptr id i f top=>match h.els id top with
  | some (_,s,es)=>if wholeArr P t i f top s then some (mkAgg (es.flatMap D.cells)) else match es[i]? with
   | some d=>partD P t d.cells f
   | none=>none
  | none=>none
 | .eptr x f=>partD P t (x.cells.map .t) f
 | _=>none
def splice {α:Type}(cs:List α)(f:Nat)(new:List α):List α:=cs.take f++new++cs.drop (f+new.length)
def putCells (d:D)(f:Nat)(new:List D):D:=match d.parts with
 | some cs=>mkAgg (splice cs f new)
 | none=>(splice [d] f new).headD .undef
def chunk {α:Type}(s:Nat):Nat→List α→List (List α)
 | 0,_=>[]
 | n+1,l=>l.take s::chunk s n (l.drop s)
def ofCells (ag:Bool)(cs:List D):Option D:=if ag then some (mkAgg cs) else match cs with
 | [d]=>if d.cells.length=1 then some d else none
 | _=>none
def arrAgg (P:Program)(t:TypeId):Bool:=match tk P t with
 | .array _ e=>(tk P e).isAgg
 | _=>false
def okCells (cs:List D):Bool:=cs.all fun c=>c.cells.length == 1
def storeD (P:Program)(h:H)(t:TypeId)(a v:D):Option H:=match a with
 | .ptr id i f top=>match h.els id top with
  | some (bt,s,es)=>if h.mays id v.cells=true∧some v.cells.length=sz P t∧0<v.cells.length∧okCells v.cells=true then
    (if wholeArr P t i f top s then match allM (ofCells (arrAgg P t)) (chunk s top v.cells) with
     | some es'=>some (h.set id (.row bt s es'))
     | none=>none
    else match es[i]? with
     | some d=>if f+v.cells.length≤d.cells.length then some (h.set id (.row bt s (es.set i (putCells d f v.cells)))) else none
     | none=>none)
   else none
  | none=>none
 | _=>none
def varD (P:Program)(h:H)(t:TypeId)(d:D):Option (D × H) :=
 if some d.cells.length=sz P t∧0<d.cells.length then
  match tk P t with
  | .array n e=>match sz P e with
   | some s=>if d.cells.length=n*s∧n<140737488355328 then match allM (ofCells (tk P e).isAgg) (chunk s n d.cells) with
     | some es=>some (.ptr h.next 0 0 n,h.push (.row t s es))
     | none=>none
    else none
   | none=>none
  | _=>some (.ptr h.next 0 0 1,h.push (.row t d.cells.length [d]))
 else none
def fillD:(Nat→Option (Nat × Nat))→List D→List (Nat × D)→Option (List D)
 | _,cs,[]=>some cs
 | place,cs,(i,v)::rest=>match place i with
  | none=>none
  | some (off,s)=>if v.cells.length=s∧0<s∧off+s≤cs.length then fillD place (splice cs off v.cells) rest else none
def placesD (P:Program)(fs:List (Nat × TypeId)):Option (List (Nat × Nat)):=allM (fun f=>(sz P f.2).map fun s=>(f.1,s)) fs
def buildD (P:Program)(t:TypeId)(parts:List (Nat × D)):Option D:=match zeroT P t with
 | none=>none
 | some z=>match tk P t with
  | .struct fs=>match placesD P fs with
   | some pl=>(fillD (fun i=>pl[i]?) (z.cells.map .t) parts).map mkAgg
   | none=>none
  | .array _ e=>match sz P e with
   | some s=>(fillD (fun i=>some (i*s,s)) (z.cells.map .t) parts).map mkAgg
   | none=>none
  | _=>none
def setsD (s:Nat):List D→List (Nat × D)→Option (List D)
 | es,[]=>some es
 | es,(i,v)::rest=>if v.cells.length=s∧i<es.length then setsD s (es.set i v) rest else none
def buildSliceD (P:Program)(h:H)(t:TypeId)(n:Nat)(parts:List (Nat × D)):Option (D × H):=match tk P t with
 | .slice e=>match sz P e,zeroT P e with
  | some s,some z=>if z.cells.length=s∧0<s∧n*s≤16777216 then
    match setsD s (List.replicate n (.t z)) parts with
    | some es=>some (.row h.next 0 n n,h.push (.row e s es))
    | none=>none
   else none
  | _,_=>none
 | _=>none
def litSliceD (P:Program)(t:TypeId)(n:Nat)(parts:List (Nat × D)):Option D:=match tk P t with
 | .slice e=>match sz P e,zeroT P e with
  | some s,some z=>if z.cells.length=s∧0<s∧n*s≤16777216 then
    match setsD s (List.replicate n (.t z)) parts with
    | some es=>(allM D.toT es).map fun ts=>.t (.slice ts)
    | none=>none
   else none
  | _,_=>none
 | _=>none
def makeSliceD (P:Program)(h:H)(t:TypeId)(l c:D):Option (D × H):=match tk P t,l,c with
 | .slice e,.t (.int _ l),.t (.int _ c)=>match sz P e,byt P e,zeroT P e with
  | some s,some b,some z=>if z.cells.length=s∧0<s∧0≤l∧l≤c∧c<140737488355328∧b*c.toNat≤140737488355328 then
    some (.row h.next 0 l.toNat l.toNat,h.push (.row e s (List.replicate l.toNat (.t z))))
   else none
  | _,_,_=>none
 | _,_,_=>none
def bytesT (s:ByteArray):List T:=s.data.toList.map fun b=>.int .u8 b.toNat
def sourceD (h:H):D→Option (List D)
 | .t .nilSlice=>some []
 | .t (.slice es)=>some (es.map .t)
 | .t (.str s)=>some ((bytesT s).map .t)
 | .row id i len top=>match h.els id top with
  | some (_,_,es)=>if i+len≤es.length then some ((es.drop i).take len) else none
  | none=>none
 | _=>none
def appendZerosD (P:Program)(h:H)(t:TypeId)(a x:D):Option (D × H):=match tk P t,a,x with
 | .slice e,.t .nilSlice,.t (.int .i64 n)=>match sz P e,byt P e,zeroT P e with
  | some s,some b,some z=>if z.cells.length=s∧0<s∧0≤n∧n<140737488355328∧n.toNat*b≤140737488355328 then
   (if n=0 then some (.t .nilSlice,h) else some (.row h.next 0 n.toNat n.toNat,h.push (.row e s (List.replicate n.toNat (.t z))))) else none
  | _,_,_=>none
 | _,_,_=>none
def appendD (P:Program)(h:H)(t:TypeId)(a x:D):Option (D × H):=match tk P t with
 | .slice e=>match sz P e,byt P e,zeroT P e,sourceD h x with
  | some s,some b,some z,some new=>if z.cells.length=s∧0<s∧new.all (fun d=>d.cells.length == s)=true then
    match a with
    | .t .nilSlice=>if new.length*b≤140737488355328∧new.length<140737488355328 then
      (if new.length=0 then some (.t .nilSlice,h) else some (.row h.next 0 new.length new.length,h.push (.row e s new))) else none
    | .row id 0 len top=>match h.els id top with
     | some (bt,s',es)=>if bt=e∧s'=s∧(len+new.length)*b≤140737488355328∧len+new.length<140737488355328∧len≤top∧h.mays id new=true then
       (if len=top then some (.row id 0 (len+new.length) (len+new.length),h.set id (.row bt s (es++new)))
        else some (.row h.next 0 (len+new.length) (len+new.length),(h.del id).push (.row bt s (es.take len++new)))) else none
     | none=>none
    | _=>none
   else none
  | _,_,_,_=>none
 | _=>none
def copyD (P:Program)(h:H)(t:TypeId)(a x:D):Option (D × H):=match tk P t with
 | .slice e=>match sz P e,sourceD h x with
  | some s,some new=>if 0<s∧new.all (fun d=>d.cells.length == s)=true then
    match a with
    | .row id i len top=>match h.els id top with
     | some (bt,s',es) =>
      let n:=min new.length len
      if s'=s∧i+len≤es.length∧h.mays id (new.take n)=true then
       some (.t (.int .i64 n),h.set id (.row bt s (splice es i (new.take n)))) else none
     | none=>none
    | _=>none
   else none
  | _,_=>none
 | _=>none
def lenD (P:Program)(h:H)(t:TypeId):D→Option D
 | .t .nilSlice=>match tk P t with
  | .slice _=>some (.t (.int .i64 0))
  | _=>none
 | .t (.slice es)=>match tk P t with
  | .slice _=>some (.t (.int .i64 es.length))
  | _=>none
 | .t (.str s)=>match tk P t with
  | .str=>some (.t (.int .i64 s.size))
  | _=>none
 | .t .nilMap=>match tk P t with
  | .map _ _=>some (.t (.int .i64 0))
  | _=>none
 | .row id i len top=>match tk P t,h.els id top with
  | .slice _,some _=>some (.t (.int .i64 len))
  | _,_=>none
 | .map id=>match tk P t,h.objs id with
  | .map _ _,some (.map ents _)=>some (.t (.int .i64 ents.length))
  | _,_=>none
 | _=>none
def indexAddrD (P:Program)(h:H)(t:TypeId)(x i:D):Option D:=match i with
 | .t (.int _ i)=>if 0≤i then
   match tk P t,x with
   | .slice e,.t (.slice es)=>match es[i.toNat]? with
    | some y=>if some y.cells.length=sz P e∧0<y.cells.length then some (.eptr y 0) else none
    | none=>none
   | .slice e,.row id i0 len top=>match h.els id top with
    | some (_,s,es)=>if some s=sz P e∧i.toNat<len∧i0+len≤es.length then some (.ptr id (i0+i.toNat) 0 top) else none
    | none=>none
   | .array n e,.ptr id 0 0 top=>match h.els id top with
    | some (_,s,es)=>if some s=sz P e∧top=n∧i.toNat<n then some (.ptr id i.toNat 0 top) else none
    | none=>none
   | .array n e,.eptr y f=>match sz P e with
    | some s=>if i.toNat<n then some (.eptr y (f+i.toNat*s)) else none
    | none=>none
   | _,_=>none
  else none
 | _=>none
def fieldAddrD (P:Program)(h:H)(t:TypeId)(x:D)(f:Nat):Option D:=match tk P t with
 | .struct fs=>match fs[f]? with
  | some (off,ty)=>match sz P ty with
   | some (_+1)=>match x with
    | .ptr id i g top=>match h.els id top with
     | some _=>some (.ptr id i (g+off) top)
     | none=>none
    | .eptr y g=>some (.eptr y (g+off))
    | _=>none
   | _=>none
  | none=>none
 | _=>none
def boundD:Option D→Option (Option Int)
 | none=>some none
 | some (.t (.int _ n))=>some (some n)
 | _=>none
def allSz (s:Nat)(es:List T):Bool:=es.all fun y=>y.cells.length == s
def sliceD (P:Program)(h:H)(t:TypeId)(x:D)(lo hi mx:Option D):Option D:=match mx,boundD lo,boundD hi with
 | none,some lo,some hi =>
  let l:=lo.getD 0
  match tk P t,x with
  | .str,.t (.str s)=>let u:=hi.getD s.size; if 0≤l∧l≤u∧u≤s.size then some (.t (.str (s.extract l.toNat u.toNat))) else none
  | .slice e,.t .nilSlice=>match sz P e with
   | some _=>if l=0∧hi.getD 0=0 then some (.t .nilSlice) else none
   | none=>none
  | .slice e,.t (.slice es)=>match sz P e with
   | some s=>let u:=hi.getD es.length; if 0≤l∧l≤u∧u≤es.length∧(l=0∨allSz s es=true) then some (.t (.slice ((es.drop l.toNat).take (u.toNat-l.toNat)))) else none
   | none=>none
  | .slice e,.row id i len top=>match h.els id top with
   | some (_,s,es)=>let u:=hi.getD len; if some s=sz P e∧0≤l∧l≤u∧u≤len then some (.row id (i+l.toNat) (u.toNat-l.toNat) top) else none
   | none=>none
  | .array n e,.ptr id 0 0 top=>match h.els id top with
   | some (_,s,es)=>let u:=hi.getD n; if some s=sz P e∧top=n∧0≤l∧l≤u∧u≤n then some (.row id l.toNat (u.toNat-l.toNat) top) else none
   | none=>none
  | _,_=>none
 | _,_,_=>none
def intBitsT (op:BinOp)(k:IntKind)(x y:Int):Option Int :=
 let a:=BitVec.ofInt k.bits x
 let b:=BitVec.ofInt k.bits y
 match op with
 | .and=>some (k.wrap (a &&& b).toNat)
 | .or=>some (k.wrap (a ||| b).toNat)
 | .xor=>some (k.wrap (a ^^^ b).toNat)
 | .andNot=>some (k.wrap (a &&& ~~~b).toNat)
 | _=>none
def eqI (a b:Int):Bool:=decide (a=b)
def ltI (a b:Int):Bool:=decide (a<b)
def leI (a b:Int):Bool:=decide (a≤b)
def eqS (a b:ByteArray):Bool:=decide (a=b)
def binInt (op:BinOp)(k:IntKind)(a:Int)(k':IntKind)(b:Int):Option T:=match op with
 | .shl=>if b<0 then none else some (.int k (k.wrap (a*2 ^ min b.toNat k.bits)))
 | .shr=>if b<0 then none else some (.int k (a.fdiv (2 ^ min b.toNat k.bits)))
 | _=>if k=k' then match op with
   | .add=>some (.int k (k.wrap (a+b)))
   | .sub=>some (.int k (k.wrap (a-b)))
   | .mul=>some (.int k (k.wrap (a*b)))
   | .quo=>if b=0 then none else some (.int k (k.wrap (a.tdiv b)))
   | .rem=>if b=0 then none else some (.int k (a.tmod b))
   | .and|.or|.xor|.andNot=>(intBitsT op k a b).map (.int k)
   | .eql=>some (.bool (eqI a b))
   | .neq=>some (.bool (!eqI a b))
   | .lss=>some (.bool (ltI a b))
   | .leq=>some (.bool (leI a b))
   | .gtr=>some (.bool (ltI b a))
   | .geq=>some (.bool (leI b a))
   | _=>none
  else none
def binStr (op:BinOp)(a b:ByteArray):Option T:=match op with
 | .add=>if a.size+b.size≤9223372036854775807 then some (.str (a++b)) else none
 | .eql=>some (.bool (eqS a b))
 | .neq=>some (.bool (!eqS a b))
 | .lss=>some (.bool (Op.bytesLess a.toList b.toList))
 | .leq=>some (.bool (!Op.bytesLess b.toList a.toList))
 | .gtr=>some (.bool (Op.bytesLess b.toList a.toList))
 | .geq=>some (.bool (!Op.bytesLess a.toList b.toList))
 | _=>none
def nilD (k:TK):D→Option Bool
 | .t .nilSlice=>match k with|.slice _=>some true|_=>none
 | .t (.slice _)=>match k with|.slice _=>some false|_=>none
 | .row ..=>match k with|.slice _=>some false|_=>none
 | .t .nilPtr=>match k with|.ptr _=>some true|_=>none
 | .ptr ..=>match k with|.ptr _=>some false|_=>none
 | .eptr ..=>match k with|.ptr _=>some false|_=>none
 | .t .nilFunc=>match k with|.func=>some true|_=>none
 | .func ..=>match k with|.func=>some false|_=>none
 | .t .nilMap=>match k with|.map _ _=>some true|_=>none
 | _=>none
inductive Lf where|int|bool|str
def leavesF (P:Program)(f:TypeId→Option (List Lf)):Nat→List Field→Option (List Lf)
 | _,[]=>some []
 | off,x::xs=>if x.offset=off∧x.name ≠ "_" then match f x.type with
   | some l=>if sz P x.type=some l.length∧0<l.length then match leavesF P f (off+l.length) xs with
    | some r=>some (l++r)
    | none=>none
    else none
   | none=>none
  else none
def leavesOf (P:Program):Nat→TypeId→Option (List Lf)
 | 0,_=>none
 | n+1,t=>match P.underlying t with
  | some .bool=>some [.bool]
  | some (.int _)=>some [.int]
  | some .string=>some [.str]
  | some (.struct fs)=>if P.stoodInHeld t=true then none else leavesF P (leavesOf P n) 0 fs.toList
  | _=>none
def eqCell:Lf→T→T→Option Bool
 | .int,.int k a,.int k' b=>if k=k' then some (eqI a b) else none
 | .bool,.bool a,.bool b=>some (a == b)
 | .str,.str a,.str b=>some (eqS a b)
 | _,_,_=>none
def eqCells:List Lf→List T→List T→Option Bool
 | [],[],[]=>some true
 | l::ls,x::xs,y::ys=>match eqCell l x y,eqCells ls xs ys with
  | some a,some b=>some (a&&b)
  | _,_=>none
 | _,_,_=>none
def leaves (P:Program)(t:TypeId):Option (List Lf):=if P.eqGuardType P.depth t=false∧(tk P t).isAgg=true then leavesOf P 8 t else none
def refOK (h:H):D→Bool
 | .row id _ _ top=>(h.els id top).isSome
 | .ptr id _ _ top=>(h.els id top).isSome
 | _=>true
def eqNil (P:Program)(h:H)(t:TypeId)(a:D)(b:T):Option Bool:=if refOK h a then match tk P t,b with
  | .slice e,.nilSlice=>nilD (.slice e) a
  | .func,.nilFunc=>nilD .func a
  | .ptr e,.nilPtr=>nilD (.ptr e) a
  | .map k e,.nilMap=>nilD (.map k e) a
  | _,_=>none
 else none
def eqD (P:Program)(h:H)(t:TypeId)(a b:D):Option Bool:=match b with
 | .t (.bool y)=>match tk P t,a with|.bool,.t (.bool x)=>some (x == y)|_,_=>none
 | .t .nilIface=>match tk P t,a with
  | .iface,.t (.iface _ _)=>some false
  | .iface,.iface _ _=>some false
  | _,_=>none
 | .t (.agg ys)=>match a with
  | .t (.agg xs)=>match leaves P t with
   | some L=>eqCells L xs ys
   | none=>none
  | _=>none
 | .t b=>eqNil P h t a b
 | _=>none
def binD (P:Program)(h:H)(op:BinOp)(t:TypeId)(a b:D):Option D:=match a,b with
 | .t (.int k x),.t (.int k' y)=>(binInt op k x k' y).map .t
 | .t (.str x),.t (.str y)=>(binStr op x y).map .t
 | _,_=>match op with
  | .eql=>(eqD P h t a b).map fun r=>.t (.bool r)
  | .neq=>(eqD P h t a b).map fun r=>.t (.bool !r)
  | _=>none
def unD (op:UnOp):D→Option D
 | .t (.int k n)=>match op with
  | .neg=>some (.t (.int k (k.wrap (0-n))))
  | .xor=>(intBitsT .xor k (if k.signed then -1 else k.max) n).map fun r=>.t (.int k r)
  | _=>none
 | .t (.bool b)=>match op with
  | .not=>some (.t (.bool !b))
  | _=>none
 | _=>none
def byteOfT:T→Option UInt8
 | .int .u8 n=>some (UInt8.ofNat n.toNat)
 | _=>none
def convD (P:Program)(h:H)(s t:TypeId)(x:D):Option D:=match x with
 | .t (.int _ n)=>match tk P t with
  | .int k=>some (.t (.int k (k.wrap n)))
  | _=>none
 | .t (.str b)=>match tk P t with
  | .str=>some (.t (.str b))
  | .slice e=>match tk P e with
   | .int .u8=>some (.t (.slice (bytesT b)))
   | _=>none
  | _=>none
 | _=>match tk P s,tk P t,snap h x with
  | .slice e,.str,some (.slice es)=>match tk P e with
   | .int .u8=>(allM byteOfT es).map fun bs=>.t (.str ⟨bs.toArray⟩)
   | _=>none
  | .slice e,.str,some .nilSlice=>match tk P e with
   | .int .u8=>some (.t (.str ⟨#[]⟩))
   | _=>none
  | _,_,_=>none
def TK.isKey:TK→Bool
 | .int _|.str|.bool=>true
 | _=>false
def keyEq:TK→T→T→Option Bool
 | .int _,.int k a,.int k' b=>if k=k' then some (eqI a b) else none
 | .str,.str a,.str b=>some (eqS a b)
 | .bool,.bool a,.bool b=>some (a == b)
 | _,_,_=>none
def findT (kt:TK)(k:T):List (T × D × Nat)→Nat→Option (Option (Nat × D × Nat))
 | [],_=>some none
 | e::es,i=>match keyEq kt k e.1 with
  | some true=>some (some (i,e.2))
  | some false=>findT kt k es (i+1)
  | none=>none
def isKeyT:T→Bool
 | .int _ _|.str _|.bool _=>true
 | _=>false
def okD (ok:Bool)(d:D)(b:Bool):D:=if ok then .tup [d,.t (.bool b)] else d
def lookupD (P:Program)(h:H)(t:TypeId)(ok:Bool)(m k:D):Option D:=match tk P t with
 | .map kt et=>match zeroT P et,k with
  | some z,.t k=>if (tk P kt).isKey then match m with
    | .t .nilMap=>some (okD ok (.t z) false)
    | .map id=>match h.objs id with
     | some (.map ents _)=>match findT (tk P kt) k ents 0 with
      | some (some (_,d,_))=>some (okD ok d true)
      | some none=>some (okD ok (.t z) false)
      | none=>none
     | _=>none
    | _=>none
   else none
  | _,_=>none
 | _=>none
def mapUpdateD (P:Program)(h:H)(t:TypeId)(m k v:D):Option H:=match tk P t,m,k with
 | .map kt _,.map id,.t k=>if (tk P kt).isKey=true∧isKeyT k=true∧h.may id v=true then match h.objs id with
   | some (.map ents clock)=>match findT (tk P kt) k ents 0 with
    | some (some (i,_,b))=>some (h.set id (.map (ents.set i (k,v,b)) clock))
    | some none=>some (h.set id (.map (ents ++ [(k,v,clock)]) (clock+1)))
    | none=>none
   | _=>none
  else none
 | _,_,_=>none
def mapEntryD (P:Program)(h:H)(t:TypeId)(m k:D):Option (D × H):=match tk P t,m,k with
 | .map kt et,.map id,.t k=>if (tk P kt).isKey=true∧isKeyT k=true then match h.objs id,zeroT P et with
   | some (.map ents clock),some z=>match findT (tk P kt) k ents 0 with
    | some (some (_,d,b))=>some (.tup [d,.t (.int .i64 b)],h)
    | some none=>some (.tup [.t z,.t (.int .i64 clock)],h.set id (.map (ents ++ [(k,.t z,clock)]) (clock+1)))
    | none=>none
   | _,_=>none
  else none
 | _,_,_=>none
def entryStoreD (h:H)(m s v:D):Option H:=match m,s with
 | .map id,.t (.int _ b)=>if h.may id v=true then match h.objs id with
   | some (.map ents clock)=>match ents.findIdx? (fun e=>decide ((e.2.2:Int)=b)) with
    | some i=>match ents[i]? with
     | some e=>some (h.set id (.map (ents.set i (e.1,v,e.2.2)) clock))
     | none=>none
    | none=>none
   | _=>none
  else none
 | _,_=>none
def deleteD (P:Program)(h:H)(t:TypeId)(m k:D):Option H:=match tk P t,k with
 | .map kt _,.t k=>if (tk P kt).isKey=true then match m with
   | .t .nilMap=>some h
   | .map id=>match h.objs id with
    | some (.map ents clock)=>match findT (tk P kt) k ents 0 with
     | some (some (i,_))=>some (h.set id (.map (ents.eraseIdx i) clock))
     | some none=>some h
     | none=>none
    | _=>none
   | _=>none
  else none
 | _,_=>none
def makeMapD (P:Program)(h:H)(t:TypeId):Option (D × H):=match tk P t with
 | .map _ _=>some (.map h.next,h.push (.map [] 0))
 | _=>none
def rangeD (P:Program)(h:H)(t:TypeId):D→Option (D × H)
 | .t (.str s)=>match tk P t with
  | .str=>some (.iter h.next,h.push (.iter s 0))
  | _=>none
 | _=>none
def nextD (h:H)(isStr:Bool):D→Option (D × H)
 | .iter id=>match h.objs id,isStr with
  | some (.iter s pos),true=>if pos<s.size then some (.tup [.t (.bool true),.t (.int .i64 pos),.t (.int .i32 (Utf8.decode s pos).1)],h.set id (.iter s (pos+(Utf8.decode s pos).2))) else some (.tup [.t (.bool false)],h)
  | _,_=>none
 | _=>none
def mm2 (mx:Bool)(x:D)(y:D):Option D:=match x,y with
 | .t (.int k x),.t (.int _ y)=>some (.t (.int k (if mx then (if x<y then y else x) else (if y<x then y else x))))
 | _,_=>none
def mmAll (mx:Bool)(x:D):List D→Option D
 | []=>match x with
  | .t (.int k x)=>some (.t (.int k x))
  | _=>none
 | y::rest=>match mm2 mx x y with
  | some z=>mmAll mx z rest
  | none=>none
def minmaxD (mx:Bool):List D→Option D
 | []=>none
 | x::rest=>mmAll mx x rest
end Vai

namespace Vai
open Go
inductive Mode where
 | pure|own|keep|drop|tree
 deriving DecidableEq,Inhabited
structure Cx where
 P:Program
 md:FuncId→FuncId→Mode
 lit:TypeId→Bool
 hard:FuncId→Nat→Option (List (Nat × Nat))
structure Cc where
 P:Program
 md:FuncId→Mode
 lit:TypeId→Bool
 hard:Nat→Option (List (Nat × Nat))
def Cx.at (cx:Cx)(k:FuncId):Cc:=⟨cx.P,cx.md k,cx.lit,cx.hard k⟩
abbrev ACall:=FuncId→List D→H→Option (D × H)
structure St where
 n:Nat
 env:Nat→D
 h:H
def St.put (st:St)(dst:Option Tmp)(d:D):St:=match dst with
 | some i=>{ st with env:=upd st.env i d }
 | none=>st
def St.ev [Gl](st:St):Operand→Option D
 | .tmp t=>if t<st.n then some (st.env t) else none
 | .const v=>(T.ofVal v).map .t
 | .func f=>some (.func (.func f) [] [])
 | .global g=>(Gl.tree g).map fun x=>.eptr x 0
def zipIx (parts:Array (Nat × Operand))(ds:List D):List (Nat × D):=(parts.toList.map (·.1)).zip ds
def holdD (ok:Bool)(d:D):D:=if ok then .tup [d,.t (.bool true)] else d
def failD (P:Program)(ok:Bool)(t:TypeId):Option D:=if ok then (zeroT P t).map fun z=>.tup [.t z,.t (.bool false)] else none
def TK.solid:TK→Bool
 | .iface|.other=>false
 | _=>true
def assertD (P:Program)(t:TypeId)(ok:Bool)(d:D):Option D:=if (tk P t).solid then
  match d with
  | .t .nilIface=>failD P ok t
  | .t (.iface u x)=>if u=t then some (holdD ok (.t x)) else failD P ok t
  | .iface u x=>if u=t then some (holdD ok x) else failD P ok t
  | _=>none
 else none
def fieldD (P:Program)(t:TypeId)(d:D)(f:Nat):Option D:=match tk P t with
 | .struct fs=>match fs[f]? with
  | some (off,ty)=>match d.parts with
   | some cs=>partD P ty cs off
   | none=>none
  | none=>none
 | _=>none
def indexD (P:Program)(t:TypeId)(x i:D):Option D:=match i with
 | .t (.int _ i)=>if 0≤i then match tk P t,x with
   | .str,.t (.str s)=>match s.data[i.toNat]? with
    | some b=>some (.t (.int .u8 b.toNat))
    | none=>none
   | .array n e,x=>match x.parts,sz P e with
    | some cs,some s=>if i.toNat<n then partD P e cs (i.toNat*s) else none
    | _,_=>none
   | _,_=>none
  else none
 | _=>none
def pureD (P:Program)(op:Op)(ds:List D):Option D:=match op with
 | .move _|.assign _=>match ds with | [d]=>some d|_=>none
 | .pick ..=>match ds with | [.t (.bool c),a,b]=>some (if c then a else b)|_=>none
 | .unOp o _ _=>match ds with | [d]=>unD o d|_=>none
 | .makeInterface t _=>match ds with | [d]=>if (tk P t).solid then some (mkIface t d) else none|_=>none
 | .makeFunc fn fs _=>some (.func fn (ds.take fs.size) (ds.drop fs.size))
 | .extract _ i=>match ds with | [.tup es]=>es[i]? | _=>none
 | .build t parts=>buildD P t (zipIx parts ds)
 | .buildSlice t n parts=>litSliceD P t n (zipIx parts ds)
 | .field t _ f=>match ds with | [d]=>fieldD P t d f|_=>none
 | .index t _ _=>match ds with | [x,i]=>indexD P t x i|_=>none
 | .typeAssert _ _ t ok=>match ds with | [d]=>assertD P t ok d|_=>none
 | _=>none
def nilNil (P:Program)(op:BinOp)(t:TypeId)(y:Operand)(a b:D):Option D:=match a,b,y with
 | .t .nilIface,.t .nilIface,.const _=>match tk P t with
  | .iface=>match op with
   | .eql=>some (.t (.bool true))
   | .neq=>some (.t (.bool false))
   | _=>none
  | _=>none
 | _,_,_=>none
def orN (x y:Option D):Option D:=match x with
 | some d=>some d
 | none=>y
def nilCheckD (h:H):D→Option D
 | .ptr id i f top=>match h.els id top with
  | some _=>some (.ptr id i f top)
  | none=>none
 | .eptr x f=>some (.eptr x f)
 | .func (.func k) fs cs=>some (.func (.func k) fs cs)
 | _=>none
def capD (P:Program)(t:TypeId):D→Option D
 | .t .nilSlice=>match tk P t with
  | .slice _=>some (.t (.int .i64 0))
  | _=>none
 | _=>none
def takeO:Option Operand→List D→Option D × List D
 | some _,d::ds=>(some d,ds)
 | _,ds=>(none,ds)
def readD (P:Program)(h:H)(op:Op)(ds:List D):Option D:=match op with
 | .nilCheck _=>match ds with | [d]=>nilCheckD h d|_=>none
 | .fieldAddr t _ f=>match ds with | [d]=>fieldAddrD P h t d f|_=>none
 | .indexAddr t _ _=>match ds with | [x,i]=>indexAddrD P h t x i|_=>none
 | .load t _=>match ds with | [a]=>loadD P h t a|_=>none
 | .lookup t _ _ ok=>match ds with | [m,k]=>lookupD P h t ok m k|_=>none
 | .binOp op t _ y _=>match ds with | [a,b]=>orN (binD P h op t a b) (nilNil P op t y a b)|_=>none
 | .convert s t _=>match ds with | [x]=>if (tk P s).form≠0 then convD P h s t x else none|_=>none
 | .slice t _ lo hi mx=>match ds with
  | x::ds=>let (l,ds):=takeO lo ds; let (u,ds):=takeO hi ds; let (m,_):=takeO mx ds; sliceD P h t x l u m
  | _=>none
 | .call c=>match c.callee with
  | .builtin .len=>match ds with | [x]=>if c.argTypes.size≠0 then lenD P h (c.argTypes.getD 0 0) x else none|_=>none
  | .builtin .cap=>match ds with | [x]=>if c.argTypes.size≠0 then capD P (c.argTypes.getD 0 0) x else none|_=>none
  | .builtin .min=>minmaxD false ds
  | .builtin .max=>minmaxD true ds
  | _=>none
 | _=>none
def effD (P:Program)(h:H)(op:Op)(ds:List D):Option (D × H):=match op with
 | .alloc t=>match ds,zeroT P t with | [],some z=>varD P h t (.t z)|_,_=>none
 | .box t _=>match ds with | [d]=>varD P h t d|_=>none
 | .buildSlice t n parts=>buildSliceD P h t n (zipIx parts ds)
 | .makeSlice t _ _=>match ds with | [l,c]=>makeSliceD P h t l c|_=>none
 | .store t _ _=>match ds with | [a,v]=>(storeD P h t a v).map fun h=>(.undef,h)|_=>none
 | .makeMap t r=>match r,ds with|none,[]=>makeMapD P h t|_,_=>none
 | .mapUpdate t _ _ _=>match ds with | [m,k,v]=>(mapUpdateD P h t m k v).map fun h=>(.undef,h)|_=>none
 | .insert t _ _ _=>match ds with | [m,k,v]=>(mapUpdateD P h t m k v).map fun h=>(.undef,h)|_=>none
 | .mapEntry t _ _=>match ds with | [m,k]=>mapEntryD P h t m k|_=>none
 | .entryStore _ _ _ _=>match ds with | [m,s,v]=>(entryStoreD h m s v).map fun h=>(.undef,h)|_=>none
 | .range t _=>match ds with | [x]=>rangeD P h t x|_=>none
 | .next _ isStr=>match ds with | [x]=>nextD h isStr x|_=>none
 | .call c=>match c.callee with
  | .builtin .append=>match ds with
   | [a,x]=>if c.argTypes.size=2 then match tk P (c.argTypes.getD 1 0) with
    | .slice _|.str=>appendD P h (c.argTypes.getD 0 0) a x
    | .int _=>appendZerosD P h (c.argTypes.getD 0 0) a x
    | _=>none
    else none
   | _=>none
  | .builtin .copy=>match ds with | [a,x]=>if c.argTypes.size=2 then copyD P h (c.argTypes.getD 0 0) a x else none|_=>none
  | .builtin .delete=>match ds with | [m,k]=>if c.argTypes.size=2 then (deleteD P h (c.argTypes.getD 0 0) m k).map fun h=>(.tup [],h) else none|_=>none
  | _=>none
 | _=>none
def callable0 (P:Program)(k:FuncId):Bool:=match P.funcs[k]? with
 | some fn=>!(fn.name == "runtime.NumGoroutine")&&fn.body.isSome
 | none=>false
def callable (P:Program)(k:FuncId):Bool:=canon callable0 P k
theorem callable_eq (P:Program)(k:FuncId):callable P k=callable0 P k:=canon_eq _ _ _
def snapOut (h:H):D→Option D
 | .tup ds=>(allM (snap h) ds).map fun ts=>.tup (ts.map .t)
 | d=>(snap h d).map .t
def T.flat:T→Bool
 | .slice _=>false
 | .agg cs=>flats cs
 | .iface _ x=>T.flat x
 | _=>true
where flats:List T→Bool
 | []=>true
 | x::xs=>T.flat x&&flats xs
def D.isT:D→Bool
 | .t _=>true
 | _=>false
def D.flat:D→Bool
 | .t x=>x.flat
 | .tup ds=>ds.all fun d=>match d with|.t x=>x.flat|_=>false
 | _=>false
def ownOut (all:Bool)(h' h:H)(d:D):Option (D × H):=match d with
 | .row id 0 len top=>match h'.objs id with
  | some (.row bt s es)=>if es.length=top∧len≤top then
    match allM (snap h') (es.take len) with
    | some ts=>if T.flat.flats ts||(all&&(es.take len).all D.isT) then some (.row h.next 0 len len,h.push (.row bt s (ts.map .t))) else none
    | none=>none
   else none
  | _=>none
 | d=>match snapOut h' d with
  | some d=>if all||d.flat then some (d,h) else none
  | none=>none
def callPure (call:ACall)(k:FuncId)(args:List D)(h:H):Option (D × H):=match allM (snap h) args with
 | none=>none
 | some ts=>match call k (ts.map .t) .empty with
  | some (d,h')=>match snapOut h' d with
   | some d=>if args.all D.isT||d.flat then some (d,h) else none
   | none=>none
  | none=>none
def callOwn (call:ACall)(k:FuncId)(args:List D)(h:H):Option (D × H):=match allM (snap h) args with
 | none=>none
 | some ts=>match call k (ts.map .t) .empty with
  | some (d,h')=>ownOut (args.all D.isT) h' h d
  | none=>none
def treeOut (all:Bool)(h' h:H)(d:D):Option (D × H):=match d with
 | .row id 0 len top=>match h'.objs id with
  | some (.row _ _ es)=>if es.length=top∧len≤top then
    match allM (snap h') (es.take len) with
    | some ts=>if T.flat.flats ts||(all&&(es.take len).all D.isT) then some (.t (.slice ts),h) else none
    | none=>none
   else none
  | _=>none
 | d=>match snapOut h' d with
  | some d=>if all||d.flat then some (d,h) else none
  | none=>none
def callTree (call:ACall)(k:FuncId)(args:List D)(h:H):Option (D × H):=match allM (snap h) args with
 | none=>none
 | some ts=>match call k (ts.map .t) .empty with
  | some (d,h')=>treeOut (args.all D.isT) h' h d
  | none=>none
def noPan:Option (D × H)→Option (D × H)
 | some (d,h)=>if d.isPan then none else some (d,h)
 | none=>none
def panOf:Option (D × H)→Option (T × H)
 | some (.pan x,h)=>some (x,h)
 | _=>none
def callDrop (call:ACall)(k:FuncId)(args:List D)(h:H):Option (D × H):=match noPan (call k args { h with marks:=h.next::h.marks }) with
 | some (d,h')=>if d.refsB h.next then some (d,h'.dropTo h) else none
 | none=>none
def callD (cx:Cc)(call:ACall)(k:FuncId)(args:List D)(h:H):Option (D × H):=if callable cx.P k then
  match cx.md k with
  | .pure=>callPure call k args h
  | .own=>callOwn call k args h
  | .keep=>noPan (call k args h)
  | .drop=>callDrop call k args h
  | .tree=>callTree call k args h
 else none
def callX (cx:Cc)(call:ACall)(k:FuncId)(args:List D)(h:H):Option (T × H):=if callable cx.P k then
  match cx.md k with
  | .keep=>panOf (call k args h)
  | _=>none
 else none
def Op.kindD (lit:TypeId→Bool):Op→Nat
 | .move _|.assign _|.pick .. | .unOp .. | .makeInterface .. | .makeFunc .. | .extract .. | .build .. | .field .. | .index .. | .typeAssert ..=>0
 | .nilCheck _|.fieldAddr .. | .indexAddr .. | .load .. | .binOp .. | .convert .. | .slice .. | .lookup ..=>1
 | .buildSlice t n _=>if lit t&&n != 0 then 0 else 2
 | .call c=>match c.callee with
  | .builtin .len|.builtin .cap|.builtin .min|.builtin .max=>1
  | .builtin _=>2
  | _=>3
 | _=>2
def stepD (cx:Cc)(call:ACall)(op:Op)(ds:List D)(h:H):Option (D × H):=match Op.kindD cx.lit op with
 | 0=>(pureD cx.P op ds).map fun d=>(d,h)
 | 1=>(readD cx.P h op ds).map fun d=>(d,h)
 | 2=>effD cx.P h op ds
 | _=>match ds with
  | .func (.func k) fs cs::rest=>match op with
   | .call c=>match c.callee with
    | .value _=>callD cx call k (fs++rest++cs) h
    | _=>none
   | _=>none
  | _=>none
def thenR (st:St)(dst:Option Tmp):Option (D × H)→Option St
 | some (d,h)=>some (St.put { st with h:=h } dst d)
 | none=>none
def runOper [Gl](cx:Cc)(call:ACall)(o:Oper)(st:St):Option St:=match allM st.ev o.op.operands.toList with
 | some ds=>thenR st o.dst (stepD cx call o.op ds st.h)
 | none=>none
def yieldD (ops:Array Oper)(st:St)(j:Nat):Option (Option Bool):=match (ops[j]?).bind (·.dst) with
 | some t=>if t<st.n then match st.env t with
  | .t (.bool b)=>some (some b)
  | .tup []=>some none
  | _=>none
  else none
 | none=>none
def oper [Gl](cx:Cc)(call:ACall)(ops:Array Oper)(o:Oper)(st:St):Option St:=match o.guard with
 | none=>runOper cx call o st
 | some (j,want)=>match yieldD ops st j with
  | some y=>if y=some want then runOper cx call o st else some (st.put o.dst (.tup []))
  | none=>none
def thenA (r:Option St)(k:St→Option St):Option St:=match r with
 | some st=>k st
 | none=>none
def opList [Gl](cx:Cc)(call:ACall)(ops:Array Oper):List Oper→St→Option St
 | [],st=>some st
 | o::os,st=>thenA (oper cx call ops o st) (opList cx call ops os)
def stepX (cx:Cc)(call:ACall)(op:Op)(ds:List D)(h:H):Option (T × H):=match op with
 | .panic _=>match ds with
  | [.t (.iface t x)]=>some (.iface t x,h)
  | _=>none
 | .call c=>match c.callee with
  | .value _=>match ds with
   | .func (.func k) fs cs::rest=>callX cx call k (fs++rest++cs) h
   | _=>none
  | _=>none
 | _=>none
def runX [Gl](cx:Cc)(call:ACall)(o:Oper)(st:St):Option (T × H):=match allM st.ev o.op.operands.toList with
 | some ds=>stepX cx call o.op ds st.h
 | none=>none
def operX [Gl](cx:Cc)(call:ACall)(ops:Array Oper)(o:Oper)(st:St):Option (T × H):=match o.guard with
 | none=>runX cx call o st
 | some (j,want)=>match yieldD ops st j with
  | some y=>if y=some want then runX cx call o st else none
  | none=>none
def panAt (st:St):Option (T × H)→Option (T × St)
 | some (x,h)=>some (x,{ st with h:=h })
 | none=>none
def panList [Gl](cx:Cc)(call:ACall)(ops:Array Oper):List Oper→St→Option (T × St)
 | [],_=>none
 | o::os,st=>match oper cx call ops o st with
  | some st1=>panList cx call ops os st1
  | none=>panAt st (operX cx call ops o st)
def Op.levelD (cx:Cc)(op:Op):Nat:=match Op.kindD cx.lit op with
 | 0=>0
 | 1=>1
 | 2=>2
 | _=>match op with
  | .call c=>match c.callee with
   | .value (.func k)=>if cx.md k = .pure∨cx.md k = .tree then 1 else 2
   | _=>2
  | _=>2
def clash (a b:Nat):Bool:=(a == 2&&b != 0)||(b == 2&&a != 0)
def indep (cx:Cc)(ops:Array Oper)(x y:Oper):Bool:=x.apart ops y && !clash (Op.levelD cx x.op) (Op.levelD cx y.op)
def masks:List Oper→List Nat→List Nat
 | [],acc=>acc
 | o::os,acc=>masks os (acc ++ [o.after.toList.foldl (fun s e=>if Region.binds .any e then s ||| (2 ^ e.on ||| acc.getD e.on 0) else s) 0])
def noSel (o:Oper):Bool:=match o.op with|.select ..=>false|_=>true
def okRegion (cx:Cc)(ops:Array Oper):Bool :=
 let ms:=masks ops.toList []
 (List.range ops.size).all fun i=>match ops[i]? with
  | none=>false
  | some o=>noSel o&&o.after.toList.all (fun e=>!Region.binds .any e||decide (e.on<i)) &&
   (List.range i).all fun j=>match ops[j]? with
    | none=>false
    | some p=>(ms.getD i 0).testBit j||indep cx ops p o
def T.beq:T→T→Bool
 | .int k a,.int k' b=>decide (k=k')&&decide (a=b)
 | .bool a,.bool b=>a == b
 | .str a,.str b=>decide (a=b)
 | .nilSlice,.nilSlice=>true
 | .nilPtr,.nilPtr=>true
 | .nilMap,.nilMap=>true
 | .nilFunc,.nilFunc=>true
 | .nilIface,.nilIface=>true
 | .agg a,.agg b=>beqs a b
 | .slice a,.slice b=>beqs a b
 | .iface t a,.iface u b=>decide (t=u)&&T.beq a b
 | _,_=>false
where beqs:List T→List T→Bool
 | [],[]=>true
 | a::l,b::m=>T.beq a b&&beqs l m
 | _,_=>false
def D.beq:D→D→Bool
 | .undef,.undef=>true
 | .t a,.t b=>T.beq a b
 | .agg a,.agg b=>beqs a b
 | .tup a,.tup b=>beqs a b
 | .ptr a b c d,.ptr a' b' c' d'=>decide (a=a')&&decide (b=b')&&decide (c=c')&&decide (d=d')
 | .eptr a f,.eptr b g=>T.beq a b&&decide (f=g)
 | .row a b c d,.row a' b' c' d'=>decide (a=a')&&decide (b=b')&&decide (c=c')&&decide (d=d')
 | .func (.func k) a b,.func (.func k') a' b'=>decide (k=k')&&beqs a a'&&beqs b b'
 | .map a,.map b=>decide (a=b)
 | .iter a,.iter b=>decide (a=b)
 | .iface x a,.iface y b=>decide (x=y)&&D.beq a b
 | _,_=>false
where beqs:List D→List D→Bool
 | [],[]=>true
 | a::l,b::m=>D.beq a b&&beqs l m
 | _,_=>false
inductive X where
 | norm
 | exit (id:Nat)
 | ret
 | pan (x:T)
abbrev CR:=Option (X × St)
def thenC (r:CR)(k:St→CR):CR:=match r with
 | some (.norm,st)=>k st
 | r=>r
def blockC (id:Nat)(r:CR):CR:=match r with
 | some (.exit i,st)=>if i=id then some (.norm,st) else some (.exit i,st)
 | r=>r
@[macro_inline] def condC (c:Option D) (x y:CR):CR:=match c with
 | some (.t (.bool b))=>if b then x else y
 | _=>none
def regC (r:Option St):CR:=match r with
 | some st=>some (.norm,st)
 | none=>none
def panK:Option (T × St)→CR
 | some (x,st)=>some (.pan x,st)
 | none=>none
def regK (r:Option St)(p:Unit→Option (T × St)):CR:=match r with
 | some st=>some (.norm,st)
 | none=>panK (p ())
def writer (cx:Cc)(ops:Array Oper)(j:Nat):Bool:=match ops[j]? with
 | some o=>Op.levelD cx o.op == 2
 | none=>false
def verOf (cx:Cc)(ops:Array Oper):Nat→Nat
 | 0=>0
 | k+1=>verOf cx ops k+if writer cx ops k then 1 else 0
def meets (cx:Cc)(ops:Array Oper)(ms:List Nat)(i k:Nat):Bool :=
 (k == 0||(writer cx ops (k-1) && !(ms.getD (k-1) 0).testBit i))&&(List.range ops.size).all fun q=>!(decide (k≤q)&&writer cx ops q&&(ms.getD i 0).testBit q)
def hardPairs (cx:Cc)(ops:Array Oper):List (Nat × Nat) :=
 let ms:=masks ops.toList []
 (List.range ops.size).flatMap fun i=>match ops[i]? with
  | some o=>if Op.levelD cx o.op == 1 then (List.range (ops.size+1)).filterMap fun k=>if meets cx ops ms i k&&verOf cx ops k != verOf cx ops i then some (i,verOf cx ops k) else none else []
  | none=>[]
def okHard (cx:Cc)(ops:Array Oper)(prs:List (Nat × Nat)):Bool :=
 let ms:=masks ops.toList []
 (hardPairs cx ops).all (fun p=>prs.contains p)&&(List.range ops.size).all fun i=>match ops[i]? with
  | none=>false
  | some o=>noSel o&&o.after.toList.all (fun e=>!Region.binds .any e||decide (e.on<i)) &&
   ((List.range i).all fun j=>match ops[j]? with
    | none=>false
    | some p=>(ms.getD i 0).testBit j||(p.apart ops o && !(Op.levelD cx p.op == 2&&Op.levelD cx o.op == 2))) &&
   (Op.levelD cx o.op != 1||((List.range ops.size).all fun j=>match ops[j]? with
    | none=>false
    | some p=>match p.dst with
     | none=>true
     | some t=>decide (j<i)||(decide (j=i)||o.dst != some t) && !(o.looksAt ops).contains t))
def okLate (cx:Cc)(ops:Array Oper)(prs:List (Nat × Nat))(p:Nat):Bool :=
 let ms:=masks ops.toList []
 (hardPairs cx ops).all (fun q=>prs.contains q) &&
 (match ops[p]? with
  | some o=>(match o.op with|.alloc _=>true|_=>false)&&o.guard.isNone&&o.dst.isSome
  | none=>false) &&
 (List.range ops.size).all fun i=>match ops[i]? with
  | none=>false
  | some o=>noSel o&&o.after.toList.all (fun e=>!Region.binds .any e||decide (e.on<i)) &&
   ((List.range i).all fun j=>match ops[j]? with
    | none=>false
    | some q=>(ms.getD i 0).testBit j||(q.apart ops o&&(!(Op.levelD cx q.op == 2&&Op.levelD cx o.op == 2)||decide (i=p)))) &&
   (Op.levelD cx o.op != 1||((List.range ops.size).all fun j=>match ops[j]? with
    | none=>false
    | some q=>match q.dst with
     | none=>true
     | some t=>decide (j<i)||(decide (j=i)||o.dst != some t) && !(o.looksAt ops).contains t)) &&
   (decide (i=p)||((match (ops[p]?).bind (·.dst) with
    | none=>false
    | some t0=>o.dst != some t0&&(!((o.looksAt ops).contains t0||o.after.toList.any fun e=>Region.binds .any e&&decide (e.on=p))||(List.range p).all fun j=>!writer cx ops j||(ms.getD i 0).testBit j))))
def opListH [Gl](cx:Cc)(call:ACall)(ops:Array Oper):List Oper→St→Option (St × List H)
 | [],st=>some (st,[st.h])
 | o::os,st=>match oper cx call ops o st with
  | none=>none
  | some st1=>match opListH cx call ops os st1 with
   | none=>none
   | some (fin,hs)=>some (fin,if Op.levelD cx o.op == 2 then st.h::hs else hs)
def sameOut (dst:Option Tmp)(fin:St):Option St→Bool
 | some st=>match dst with
  | some t=>D.beq (st.env t) (fin.env t)
  | none=>true
 | none=>false
def steady [Gl](cx:Cc)(call:ACall)(ops:Array Oper)(fin:St)(hs:List H):List (Nat × Nat)→Bool
 | []=>true
 | (i,v)::rest=>(match ops[i]?,hs[v]? with
  | some o,some h=>sameOut o.dst fin (oper cx call ops o { fin with h:=h })
  | _,_=>false)&&steady cx call ops fin hs rest
def hardC [Gl](cx:Cc)(call:ACall)(ops:Array Oper)(prs:List (Nat × Nat))(st:St):CR:=match opListH cx call ops ops.toList st with
 | some (fin,hs)=>if steady cx call ops fin hs prs=true then some (.norm,fin) else none
 | none=>none
def drawC [Gl](cx:Cc)(call:ACall)(ops:Array Oper)(st:St):Option (Option (List (Nat × Nat)))→CR
 | some (some prs)=>hardC cx call ops prs st
 | some none=>regC (opList cx call ops ops.toList st)
 | none=>regK (opList cx call ops ops.toList st) fun _=>panList cx call ops ops.toList st
abbrev Iter:=(St→CR)→St→CR
def code [Gl](cx:Cc)(call:ACall)(it:Iter):Code→St→CR
 | .skip,st=>some (.norm,st)
 | .label _,st=>some (.norm,st)
 | .region id ops draw,st=>drawC cx call ops st (if draw then some (cx.hard id) else none)
 | .seq a b,st=>thenC (code cx call it a st) (code cx call it b)
 | .cond c x y,st=>condC (st.ev c) (code cx call it x st) (code cx call it y st)
 | .block id c,st=>blockC id (code cx call it c st)
 | .loop c,st=>it (code cx call it c) st
 | .exit id,st=>some (.exit id,st)
 | .ret,st=>some (.ret,st)
 | _,_=>none
def okCode (cx:Cc):Code→Bool
 | .region id ops draw=>!draw||(match cx.hard id with|some prs=>okHard cx ops prs||(List.range ops.size).any (okLate cx ops prs)|none=>okRegion cx ops)
 | .seq a b=>okCode cx a&&okCode cx b
 | .cond _ a b=>okCode cx a&&okCode cx b
 | .block _ c=>okCode cx c
 | .loop c=>okCode cx c
 | _=>true
def okFunc (cx:Cc)(fn:Func):Bool:=match fn.body with
 | some c=>okCode cx c
 | none=>false
def enterE (args:List D):Nat→D:=fun i=>args.getD i .undef
def resultD (P:Program)(st:St):ResultVar→Option D
 | .tmp t=>if t<st.n then some (st.env t) else none
 | .cell a t=>if a<st.n then loadD P st.h t (st.env a) else none
def resultsD (P:Program)(st:St)(rs:List ResultVar):Option D:=match allM (resultD P st) rs with
 | some [d]=>some d
 | some ds=>some (.tup ds)
 | none=>none
def endC (P:Program)(rs:List ResultVar)(r:CR):Option (D × H):=match r with
 | some (.norm,st)=>(resultsD P st rs).map fun d=>(d,st.h)
 | some (.ret,st)=>(resultsD P st rs).map fun d=>(d,st.h)
 | some (.pan x,st)=>some (.pan x,st.h)
 | _=>none
def bodyOf (fn:Func):Code:=fn.body.getD .skip
def func [Gl](cx:Cx)(call:ACall)(it:Iter)(k:FuncId)(args:List D)(h:H):Option (D × H):=match cx.P.funcs[k]? with
 | some fn=>if okFunc (cx.at k) fn=true∧args.length≤fn.ntmps then
   endC cx.P fn.results.toList (code (cx.at k) call it (bodyOf fn) ⟨fn.ntmps,enterE args,h⟩)
  else none
 | none=>none
def iter:Nat→Iter
 | 0,_,_=>none
 | n+1,f,st=>match f st with
  | some (.norm,st')=>iter n f st'
  | r=>r
def callN [Gl](cx:Cx)(prim:FuncId→Option ACall):Nat→ACall
 | 0,_,_,_=>none
 | n+1,k,args,h=>match prim k with
  | some g=>g k args h
  | none=>func cx (callN cx prim n) (iter n) k args h
end Vai

namespace Vai
open Go
structure MI where
 blk:Nat
 top:Nat
 s:Nat
 cap:Nat
structure M where
 f:Nat→Option MI
 F:Nat→Prop
instance:CoeFun M (fun _=>Nat→Option MI):=⟨M.f⟩
def M.own (m:M)(k:Nat):Prop:=∃ id x,m id=some x∧x.blk=k
def M.blocks (m:M)(k:Nat):Prop:=m.own k∨m.F k
def M.upd (m:M)(id:Nat)(x:Option MI):M:=⟨Vai.upd m.f id x,m.F⟩
theorem M.upd_same (m:M)(id:Nat)(x:Option MI):(m.upd id x) id=x:=by simp [M.upd,Vai.upd]
theorem M.upd_self {m:M}{id:Nat}{x:MI}(h:m id=some x):m.upd id (some x)=m:=by
 cases m with
 | mk f F =>
  simp only [M.upd,M.mk.injEq,and_true]
  funext k
  by_cases hk:k=id
  · subst hk; simpa [Vai.upd] using h.symm
  · simp [Vai.upd,hk]
theorem M.upd_ne (m:M){id i:Nat}(x:Option MI)(h:i≠id):(m.upd id x) i=m i:=by simp [M.upd,Vai.upd,h]
inductive TR (w:World) (S:Nat→Prop):T→Value→Prop
 | int (k:IntKind) (n:Int):TR w S (.int k n) (.int k n)
 | bool (b:Bool):TR w S (.bool b) (.bool b)
 | str (s:ByteArray):TR w S (.str s) (.string s)
 | nilSlice:TR w S .nilSlice (.slice none 0 0)
 | nilPtr:TR w S .nilPtr (.pointer none)
 | nilMap:TR w S .nilMap (.map none)
 | nilFunc:TR w S .nilFunc .nilFunc
 | nilIface:TR w S .nilIface .nilIface
 | agg {cs:List T} {vs:Array Value} (hl:cs.length=vs.size) (h1:∀ (i:Nat) (v:Value),vs[i]?=some v→v.oneCell'=true)
  (h:∀ (i:Nat) (c:T) (v:Value),cs[i]?=some c→vs[i]?=some v→TR w S c v):TR w S (.agg cs) (.agg vs)
 | slice {es:List T} {a:Addr} {len cap s:Nat} {us:Nat→Nat→Value} (hl:es.length=len) (hc:len≤cap) (hs:∀ (i:Nat) (e:T),es[i]?=some e→e.cells.length=s)
  (hcell:∀ (i j:Nat) (e c:T),es[i]?=some e→e.cells[j]?=some c→¬ S a.block∧w.cell? (a.add (i*s+j))=some (us i j)∧(us i j).oneCell'=true)
  (h:∀ (i j:Nat) (e c:T),es[i]?=some e→e.cells[j]?=some c→TR w S c (us i j)):TR w S (.slice es) (.slice (some a) len cap)
 | iface {t:TypeId} {x:T} {v:Value} (h:TR w S x v):TR w S (.iface t x) (.iface t v)
theorem add_block (a:Addr)(n:Nat):(a.add n).block=a.block:=by
 unfold Addr.add; split<;>rfl
theorem cell_lt {w:World}{a:Addr}{v:Value}(h:w.cell? a=some v):a.block<w.heap.size:=World.block_lt_of_cell? w a h
theorem TR.mono {w w':World}{S S':Nat→Prop}(hk:∀ k,k<w.heap.size→¬ S k→w'.heap[k]? = w.heap[k]?)(hS:∀ k,k<w.heap.size→S' k→S k){x:T}{v:Value}(h:TR w S x v):TR w' S' x v:=by
 induction h with
 | int=>constructor
 | bool=>constructor
 | str=>constructor
 | nilSlice=>constructor
 | nilPtr=>constructor
 | nilMap=>constructor
 | nilFunc=>constructor
 | nilIface=>constructor
 | agg hl h1 _ ih=>exact .agg hl h1 ih
 | slice hl hc hs hcell _ ih =>
  refine .slice hl hc hs (fun i j e c h1 h2=>?_) ih
  obtain ⟨h3,h4,h5⟩:=hcell i j e c h1 h2;have hb:=cell_lt h4;rw [add_block] at hb;exact ⟨fun h=>h3 (hS _ hb h),(World.cell?_of_block (by rw [add_block]; exact hk _ hb h3)).trans h4,h5⟩
 | iface _ ih=>exact .iface ih
inductive VR (m:M) (w:World):D→Value→Prop
 | undef (v:Value):VR m w .undef v
 | t {x:T} {v:Value} (h:TR w m.blocks x v):VR m w (.t x) v
 | agg {ds:List D} {vs:Array Value} (hl:ds.length=vs.size) (h1:∀ (i:Nat) (v:Value),vs[i]?=some v→v.oneCell'=true)
  (h:∀ (i:Nat) (d:D) (v:Value),ds[i]?=some d→vs[i]?=some v→VR m w d v):VR m w (.agg ds) (.agg vs)
 | tup {ds:List D} {vs:Array Value} (hl:ds.length=vs.size) (h:∀ (i:Nat) (d:D) (v:Value),ds[i]?=some d→vs[i]?=some v→VR m w d v):VR m w (.tup ds) (.tuple vs)
 | ptr {id i f top:Nat} {v:Value} (h1:v.oneCell'=true) (h:∀ x,m id=some x→top≤x.top∧(x.top=top→v = .pointer (some ⟨x.blk,i*x.s+f,none⟩))):VR m w (.ptr id i f top) v
 | eptr {x:T} {f:Nat} {a:Addr} {us:Nat→Value} (hS:¬ m.blocks a.block) (hc:∀ (j:Nat) (c:T),x.cells[j]?=some c→w.cell? (a.add j)=some (us j)∧(us j).oneCell'=true)
  (h:∀ (j:Nat) (c:T),x.cells[j]?=some c→TR w m.blocks c (us j)) (hne:x.cells≠[]):VR m w (.eptr x f) (.pointer (some (a.add f)))
 | row {id i len top:Nat} {v:Value} (h1:v.oneCell'=true) (h:∀ x,m id=some x→top≤x.top∧(x.top=top→i+len≤top∧∃ a cap,v = .slice (some a) len cap∧len≤cap∧i+cap≤x.cap∧(0<cap→a=⟨x.blk,i*x.s,none⟩))):VR m w (.row id i len top) v
 | func {fn:Fn} {fs cs:List D} {us vs:Array Value} (hl:fs.length=us.size) (hl':cs.length=vs.size) (h:∀ (i:Nat) (d:D) (v:Value),fs[i]?=some d→us[i]?=some v→VR m w d v)
  (h':∀ (i:Nat) (d:D) (v:Value),cs[i]?=some d→vs[i]?=some v→VR m w d v):VR m w (.func fn fs cs) (.func fn us vs)
 | map {id:Nat} {v:Value} (h1:v.oneCell'=true) (h:∀ x,m id=some x→x.s=0→v = .map (some x.blk)):VR m w (.map id) v
 | iter {id:Nat} {v:Value} (h1:v.oneCell'=true) (h:∀ x,m id=some x→x.s=0→v = .pointer (some ⟨x.blk,0,none⟩)):VR m w (.iter id) v
 | iface {t:TypeId} {d:D} {v:Value} (h:VR m w d v):VR m w (.iface t d) (.iface t v)
structure Ext (n:Nat) (m:M) (w:World) (m':M) (w':World):Prop where
 os:w'.os=w.os
 tape:w'.tape=w.tape
 output:w'.output=w.output
 size:w.heap.size≤w'.heap.size
 keep:∀ k,k<w.heap.size→¬ m.own k→w'.heap[k]? = w.heap[k]?
 away:m'.F=m.F
 refs:∀ id x',id<n→m' id=some x'→∃ x,m id=some x∧(x'=x∨(x.top<x'.top∧0<x.s∧x'.s=x.s))
 newb:∀ id x',m' id=some x'→m.own x'.blk∨w.heap.size≤x'.blk
theorem Ext.refl (n:Nat)(m:M)(w:World):Ext n m w m w:=⟨rfl,rfl,rfl,Nat.le_refl _,fun _ _ _=>rfl,rfl,fun _ x' _ h=>⟨x',h,.inl rfl⟩,fun id x' h=>.inl ⟨id,x',h,rfl⟩⟩
theorem Ext.trans {n n':Nat}{m m1 m2:M}{w w1 w2:World}(h:Ext n m w m1 w1)(k:Ext n' m1 w1 m2 w2)(hn:n≤n'):Ext n m w m2 w2 where
 os:=k.os.trans h.os
 tape:=k.tape.trans h.tape
 output:=k.output.trans h.output
 size:=Nat.le_trans h.size k.size
 keep:=fun b hb hS=>by
  refine (k.keep b (Nat.lt_of_lt_of_le hb h.size) ?_).trans (h.keep b hb hS);rintro ⟨id,x,hx,rfl⟩;rcases h.newb id x hx with h1|h1
  · exact hS h1
  · omega
 away:=k.away.trans h.away
 refs:=fun id x2 hid h2=>by
  obtain ⟨x1,h1,r1⟩:=k.refs id x2 (Nat.lt_of_lt_of_le hid hn) h2;obtain ⟨x,hx,r⟩:=h.refs id x1 hid h1;refine ⟨x,hx,?_⟩;rcases r1 with rfl|⟨a,b,c⟩
  · exact r
  · rcases r with rfl|⟨a',b',c'⟩
    · exact .inr ⟨a,b,c⟩
    · exact .inr ⟨by omega,b',by omega⟩
 newb:=fun id x2 h2=>by
  rcases k.newb id x2 h2 with ⟨id1,x1,h1,e⟩|h1
  · rw [←e]
    rcases h.newb id1 x1 h1 with h3|h3
    · exact .inl h3
    · exact .inr h3
  · exact .inr (Nat.le_trans h.size h1)
theorem Ext.blocks {n:Nat}{m m':M}{w w':World}(h:Ext n m w m' w')(k:Nat)(hk:k<w.heap.size)(hb:m'.blocks k):m.blocks k:=by
 rcases hb with ⟨id,x,hx,rfl⟩|hb
 · rcases h.newb id x hx with h1|h1
   · exact .inl h1
   · omega
 · exact .inr (h.away ▸ hb)
theorem Ext.tr {n:Nat}{m m':M}{w w':World}(h:Ext n m w m' w'){x:T}{v:Value}(hx:TR w m.blocks x v):TR w' m'.blocks x v:=hx.mono (fun k hk hS=>h.keep k hk fun ho=>hS (.inl ho)) h.blocks
theorem refsL_all (n:Nat):∀ ds:List D,D.refsB.refsL n ds=ds.all (D.refsB n)
 | []=>rfl
 | d::ds=>by rw [D.refsB.refsL,refsL_all n ds]; rfl
theorem refsL_get {n:Nat}{ds:List D}(h:D.refsB.refsL n ds=true){i:Nat}{d:D}(hd:ds[i]?=some d):d.refsB n=true:=by
 rw [refsL_all,List.all_eq_true] at h;exact h d (List.mem_of_getElem? hd)
theorem Ext.vr {n:Nat}{m m':M}{w w':World}(h:Ext n m w m' w'){d:D}{v:Value}(hd:VR m w d v)(hb:d.refsB n=true):VR m' w' d v:=by
 induction hd with
 | undef v=>exact .undef v
 | t hx=>exact .t (h.tr hx)
 | agg hl h1 _ ih=>exact .agg hl h1 fun i d v hd hv=>ih i d v hd hv (refsL_get (by simpa [D.refsB] using hb) hd)
 | tup hl _ ih=>exact .tup hl fun i d v hd hv=>ih i d v hd hv (refsL_get (by simpa [D.refsB] using hb) hd)
 | ptr h1 hp =>
  refine .ptr h1 fun x' hx'=>?_
  obtain ⟨x,hx,r⟩:=h.refs _ x' (by simpa [D.refsB] using hb) hx'
  obtain ⟨ht,hv⟩:=hp x hx;rcases r with rfl|⟨a,b,c⟩
  · exact ⟨ht,hv⟩
  · exact ⟨by omega,fun e=>by omega⟩
 | @eptr x f a us hS hc hx hne =>
  have hlt:a.block<w.heap.size:=by
    cases hcs:x.cells with
    | nil=>exact absurd hcs hne
    | cons c cs =>
     have:=cell_lt (hc 0 c (by rw [hcs]; rfl)).1
     rwa [add_block] at this
  exact .eptr (fun hb'=>hS (h.blocks _ hlt hb')) (fun j c hj=>⟨(World.cell?_of_block (by rw [add_block]; exact h.keep _ hlt fun ho=>hS (.inl ho))).trans (hc j c hj).1,(hc j c hj).2⟩) (fun j c hj=>h.tr (hx j c hj)) hne
 | row h1 hp =>
  refine .row h1 fun x' hx'=>?_
  obtain ⟨x,hx,r⟩:=h.refs _ x' (by simpa [D.refsB] using hb) hx'
  obtain ⟨ht,hv⟩:=hp x hx;rcases r with rfl|⟨a,b,c⟩
  · exact ⟨ht,hv⟩
  · exact ⟨by omega,fun e=>by omega⟩
 | func hl hl' _ _ ih ih' =>
  simp only [D.refsB,Bool.and_eq_true] at hb;exact .func hl hl' (fun i d v hd hv=>ih i d v hd hv (refsL_get hb.1 hd)) (fun i d v hd hv=>ih' i d v hd hv (refsL_get hb.2 hd))
 | map h1 hp =>
  refine .map h1 fun x' hx' hs=>?_
  obtain ⟨x,hx,r⟩:=h.refs _ x' (by simpa [D.refsB] using hb) hx'
  rcases r with rfl|⟨a,b,c⟩
  · exact hp _ hx hs
  · omega
 | iter h1 hp =>
  refine .iter h1 fun x' hx' hs=>?_
  obtain ⟨x,hx,r⟩:=h.refs _ x' (by simpa [D.refsB] using hb) hx'
  rcases r with rfl|⟨a,b,c⟩
  · exact hp _ hx hs
  · omega
 | iface _ ih=>exact .iface (ih (by simpa [D.refsB] using hb))
mutual
theorem D.refsB_mono {n n':Nat}(hn:n≤n'):∀ d:D,d.refsB n=true→d.refsB n'=true
 | .undef,_=>rfl
 | .t _,_=>rfl
 | .eptr _ _,_=>rfl
 | .pan _,_=>rfl
 | .agg ds,h=>refsL_mono hn ds h
 | .tup ds,h=>refsL_mono hn ds h
 | .ptr id _ _ _,h=>by simp only [D.refsB,decide_eq_true_eq] at h ⊢; omega
 | .row id _ _ _,h=>by simp only [D.refsB,decide_eq_true_eq] at h ⊢; omega
 | .map id,h=>by simp only [D.refsB,decide_eq_true_eq] at h ⊢; omega
 | .iter id,h=>by simp only [D.refsB,decide_eq_true_eq] at h ⊢; omega
 | .func _ fs cs,h=>by
  simp only [D.refsB,Bool.and_eq_true] at h ⊢;exact ⟨refsL_mono hn fs h.1,refsL_mono hn cs h.2⟩
 | .iface _ d,h=>D.refsB_mono hn d h
theorem refsL_mono {n n':Nat}(hn:n≤n'):∀ ds:List D,D.refsB.refsL n ds=true→D.refsB.refsL n' ds=true
 | [],_=>rfl
 | d::ds,h=>by
  simp only [D.refsB.refsL,Bool.and_eq_true] at h ⊢;exact ⟨D.refsB_mono hn d h.1,refsL_mono hn ds h.2⟩
end
theorem TR.one {w:World}{S:Nat→Prop}{x:T}{v:Value}(h:TR w S x v):(∃ cs vs,x = .agg cs∧v = .agg vs)∨(x.cells=[x]∧v.cells = #[v]∧v.oneCell'=true):=by
 cases h<;>first
  | exact .inl ⟨_,_,rfl,rfl⟩
  | exact .inr ⟨rfl,rfl,rfl⟩
theorem VR.cells {m:M}{w:World}{d:D}{v:Value}(h:VR m w d v)(hne:d.cells≠[]) :
  d.cells.length=v.cells.size∧∀ (j:Nat) (c:D) (u:Value),d.cells[j]?=some c→v.cells[j]?=some u→VR m w c u∧u.oneCell'=true:=by
 have single:∀ {d:D} {v:Value},VR m w d v→d.cells=[d]→v.oneCell'=true→d.cells.length=v.cells.size∧∀ (j:Nat) (c:D) (u:Value),d.cells[j]?=some c→v.cells[j]?=some u→VR m w c u∧u.oneCell'=true:=by
  intro d v h hd hv;have hvc:v.cells = #[v]:=by cases v<;>first|rfl|cases hv
  rw [hd,hvc];refine ⟨rfl,fun j c u hc hu=>?_⟩
  cases j with
  | zero=>simp at hc hu; subst hc; subst hu; exact ⟨h,hv⟩
  | succ j=>simp at hc
 cases h with
 | undef=>exact absurd rfl hne
 | @t x _ hx =>
  cases hx with
  | @agg cs vs hl h1 h =>
   refine ⟨by simp [D.cells,T.cells,Value.cells,hl],fun j c u hc hu=>?_⟩
   simp only [D.cells,T.cells,List.getElem?_map,Option.map_eq_some_iff] at hc;obtain ⟨y,hy,rfl⟩:=hc;exact ⟨.t (h j y u hy hu),h1 j u hu⟩
  | int=>exact single (.t (.int _ _)) rfl rfl
  | bool=>exact single (.t (.bool _)) rfl rfl
  | str=>exact single (.t (.str _)) rfl rfl
  | nilSlice=>exact single (.t .nilSlice) rfl rfl
  | nilPtr=>exact single (.t .nilPtr) rfl rfl
  | nilMap=>exact single (.t .nilMap) rfl rfl
  | nilFunc=>exact single (.t .nilFunc) rfl rfl
  | nilIface=>exact single (.t .nilIface) rfl rfl
  | slice hl hc hs hcell h=>exact single (.t (.slice hl hc hs hcell h)) rfl rfl
  | iface h=>exact single (.t (.iface h)) rfl rfl
 | agg hl h1 h=>exact ⟨hl,fun j c u hc hu=>⟨h j c u hc hu,h1 j u hu⟩⟩
 | tup=>exact absurd rfl hne
 | ptr h1 h=>exact single (.ptr h1 h) rfl h1
 | eptr hS hc hx hn=>exact single (.eptr hS hc hx hn) rfl rfl
 | row h1 h=>exact single (.row h1 h) rfl h1
 | func hl hl' h h'=>exact single (.func hl hl' h h') rfl rfl
 | map h1 h=>exact single (.map h1 h) rfl h1
 | iter h1 h=>exact single (.iter h1 h) rfl h1
 | iface h=>exact single (.iface h) rfl rfl
theorem allM_some {α β:Type}{f:α→Option β}:∀ {l:List α} {r:List β},allM f l=some r→l.length=r.length∧∀ (i:Nat) (a:α) (b:β),l[i]?=some a→r[i]?=some b→f a=some b
 | [],r,h=>by
  simp only [allM,Option.some.injEq] at h;subst h;exact ⟨rfl,fun i a b ha=>by simp at ha⟩
 | x::xs,r,h=>by
  simp only [allM] at h
  cases hx:f x with
  | none=>simp [hx] at h
  | some y =>
   cases hs:allM f xs with
   | none=>simp [hx,hs] at h
   | some ys =>
    simp [hx,hs] at h;subst h;obtain ⟨h1,h2⟩:=allM_some hs;refine ⟨by simp [h1],fun i a b ha hb=>?_⟩
    cases i with
    | zero=>simp at ha hb; subst ha; subst hb; exact hx
    | succ i=>exact h2 i a b (by simpa using ha) (by simpa using hb)
theorem allM_get {α β:Type}{f:α→Option β}{l:List α}{r:List β}(h:allM f l=some r){i:Nat}{b:β}(hb:r[i]?=some b):∃ a,l[i]?=some a∧f a=some b:=by
 obtain ⟨hl,hf⟩:=allM_some h;have hi:i<l.length:=by rw [hl]; exact (List.getElem?_eq_some_iff.1 hb).1
 exact ⟨l[i],List.getElem?_eq_getElem hi,hf i _ _ (List.getElem?_eq_getElem hi) hb⟩
theorem allM_get' {α β:Type}{f:α→Option β}{l:List α}{r:List β}(h:allM f l=some r){i:Nat}{a:α}(ha:l[i]?=some a):∃ b,r[i]?=some b∧f a=some b:=by
 obtain ⟨hl,hf⟩:=allM_some h;have hi:i<r.length:=by rw [←hl]; exact (List.getElem?_eq_some_iff.1 ha).1
 exact ⟨r[i],List.getElem?_eq_getElem hi,hf i _ _ ha (List.getElem?_eq_getElem hi)⟩
theorem toT_some {d:D}{x:T}(h:d.toT=some x):d = .t x:=by cases d<;>simp_all [D.toT]
theorem VR.mkAgg {m:M}{w:World}{ds:List D}{vs:Array Value}(hl:ds.length=vs.size)(h1:∀ (i:Nat)(v:Value),vs[i]?=some v→v.oneCell'=true)(h:∀ (i:Nat)(d:D)(v:Value),ds[i]?=some d→vs[i]?=some v→VR m w d v):VR m w (Vai.mkAgg ds) (.agg vs):=by
 unfold Vai.mkAgg
 cases hts:allM D.toT ds with
 | none=>exact .agg hl h1 h
 | some ts =>
  obtain ⟨hl2,hf⟩:=allM_some hts;refine .t (.agg (by omega) h1 fun i c v hc hv=>?_)
  obtain ⟨d,hd,hdc⟩:=allM_get hts hc;have:=h i d v hd hv;rw [toT_some hdc] at this
  cases this with
  | t hx=>exact hx
theorem mkAgg_cells (ds:List D):(mkAgg ds).cells=ds:=by
 unfold mkAgg
 cases hts:allM D.toT ds with
 | none=>rfl
 | some ts =>
  obtain ⟨hl,hf⟩:=allM_some hts;refine List.ext_getElem? fun i=>?_
  simp only [D.cells,T.cells,List.getElem?_map]
  cases ht:ts[i]? with
  | none =>
   rw [List.getElem?_eq_none_iff] at ht;simp only [Option.map_none];exact (List.getElem?_eq_none (by omega)).symm
  | some x =>
   obtain ⟨d,hd,hdx⟩:=allM_get hts ht;rw [hd,toT_some hdx];rfl
theorem mkAgg_refs {n:Nat}{ds:List D}(h:D.refsB.refsL n ds=true):(mkAgg ds).refsB n=true:=by
 unfold mkAgg;split
 · rfl
 · simpa [D.refsB] using h
def keyV:T→Option Value
 | .int k n=>some (.int k n)
 | .str s=>some (.string s)
 | .bool b=>some (.bool b)
 | _=>none
def OR (m:M)(w:World)(x:MI):AObj→Prop
 | .row bt s es=>x.s=s∧0<s∧x.top=es.length∧x.top≤x.cap∧x.cap≤maxLen∧∃ cur:Array Value,w.heap[x.blk]?=some (.cells cur bt (0,0))∧cur.size=x.cap*s ∧
  (∀ (i:Nat) (d:D),es[i]?=some d→d.cells.length=s)∧∀ (i j:Nat) (d c:D),es[i]?=some d→d.cells[j]?=some c→∃ u,cur[i*s+j]?=some u∧VR m w c u∧u.oneCell'=true
 | .map ents clock=>x.s=0∧∃ arr:Array MapEntry,w.heap[x.blk]?=some (.map arr clock)∧arr.size=ents.length ∧
  ∀ (i:Nat) (k:T) (d:D) (b:Nat),ents[i]?=some (k,d,b)→∃ e:MapEntry,arr[i]?=some e∧keyV k=some e.key∧VR m w d e.val∧e.born=b
 | .iter s pos=>x.s=0∧w.heap[x.blk]?=some (.stringIter s pos)
def GlobOK [Gl](m:M)(w:World):Prop:=Gl.ok w∧∀ k,Gl.blk k→k<w.heap.size∧¬ m.blocks k
theorem GlobOK.step [Gl]{n:Nat}{m m':M}{w w':World}(h:GlobOK m w)(he:Ext n m w m' w'):GlobOK m' w' :=
 ⟨Gl.stay w w' (fun k hk=>he.keep k (h.2 k hk).1 fun ho=>(h.2 k hk).2 (.inl ho)) h.1,fun k hk=>⟨Nat.lt_of_lt_of_le (h.2 k hk).1 he.size,fun hb=>(h.2 k hk).2 (he.blocks k (h.2 k hk).1 hb)⟩⟩
theorem GlobOK.sub [Gl]{m m':M}{w:World}(h:GlobOK m w)(hs:∀ k,m'.blocks k→m.blocks k):GlobOK m' w:=⟨h.1,fun k hk=>⟨(h.2 k hk).1,fun h1=>(h.2 k hk).2 (hs k h1)⟩⟩
theorem scalarT_glob {v:Value}{c:T}(h:scalarT v=some c)(w:World)(S:Nat→Prop):TR w S c v∧v.oneCell'=true:=by
 unfold scalarT at h;split at h<;>cases h<;>exact ⟨by constructor,rfl⟩
theorem GlobOK.addr [Gl]{m:M}{w:World}(h:GlobOK m w){g:Nat}{x:T}(hg:Gl.tree g=some x):VR m w (.eptr x 0) (.pointer (some ⟨g,0,none⟩)):=by
 obtain ⟨hb,hne,hc⟩:=Gl.trees w g x h.1 hg;have key:∀ j:Nat,∃ v:Value,∀ c,x.cells[j]?=some c→w.cell? ⟨g,j,none⟩=some v∧scalarT v=some c:=fun j=>by
  cases hj:x.cells[j]? with
  | none=>exact ⟨.bool false,fun c hc=>by cases hc⟩
  | some c=>obtain ⟨v,hv⟩:=hc j c hj; exact ⟨v,fun c' h=>by cases h; exact hv⟩
 have hz:∀ j:Nat,(⟨g,0,none⟩:Addr).add j=⟨g,j,none⟩:=fun j=>by unfold Addr.add; split<;>simp_all
 have:=VR.eptr (m:=m) (w:=w) (x:=x) (f:=0) (a:=⟨g,0,none⟩) (us:=fun j=>(key j).choose) (fun h1=>(h.2 g hb).2 h1)
  (fun j c hj=>by
   have:=(key j).choose_spec c hj;rw [hz];exact ⟨this.1,(scalarT_glob this.2 w m.blocks).2⟩)
  (fun j c hj=>(scalarT_glob ((key j).choose_spec c hj).2 w m.blocks).1) hne
 rw [hz] at this;exact this
structure HR [Gl] (m:M) (w:World) (h:H):Prop where
 obj:∀ id o,h.objs id=some o→∃ x,m id=some x∧OR m w x o
 dom:∀ id x,m id=some x→(h.objs id).isSome=true∧id<h.next
 inj:∀ id id' x x',m id=some x→m id'=some x'→x.blk=x'.blk→id=id'
 far:∀ id x,m id=some x→¬ m.F x.blk
 old:∀ k,m.F k→k<w.heap.size
 below:∀ id o,h.objs id=some o→o.refsB h.next=true
 marks:∀ mk∈h.marks,mk≤h.next∧∀ id o,h.objs id=some o→id<mk→o.refsB mk=true
 glob:GlobOK m w
end Vai

namespace Vai
open Go
open Go.RowKit (Below)
variable [Gl]
theorem Ext.of_below {m:M}{w w':World}(h:Below w.heap.size w w')(n:Nat):Ext n m w m w' :=
 ⟨h.os,h.tape,h.output,h.size,fun k hk _=>h.block k hk,rfl,fun _ x' _ hx=>⟨x',hx,.inl rfl⟩,fun id x' hx=>.inl ⟨id,x',hx,rfl⟩⟩
theorem refs_bound:∀ d:D,∃ n,d.refsB n=true:=by
 have key:(∀ d:D,∃ n,d.refsB n=true)∧True:=by
  refine ⟨fun d=>?_,trivial⟩
  exact D.rec (motive_1:=fun d=>∃ n,d.refsB n=true) (motive_2:=fun ds=>∃ n,D.refsB.refsL n ds=true)
   ⟨0,rfl⟩ (fun _=>⟨0,rfl⟩) (fun _ h=>h) (fun _ h=>h)
   (fun id _ _ _=>⟨id+1,by simp [D.refsB]⟩) (fun _ _=>⟨0,rfl⟩) (fun id _ _ _=>⟨id+1,by simp [D.refsB]⟩)
   (fun _ fs cs ⟨a,ha⟩ ⟨b,hb⟩=>⟨max a b,by
    simp only [D.refsB,Bool.and_eq_true];exact ⟨refsL_mono (Nat.le_max_left a b) fs ha,refsL_mono (Nat.le_max_right a b) cs hb⟩⟩)
   (fun id=>⟨id+1,by simp [D.refsB]⟩) (fun id=>⟨id+1,by simp [D.refsB]⟩) (fun _ _ h=>h) (fun _=>⟨0,rfl⟩)
   ⟨0,rfl⟩ (fun d ds ⟨a,ha⟩ ⟨b,hb⟩=>⟨max a b,by
    simp only [D.refsB.refsL,Bool.and_eq_true];exact ⟨D.refsB_mono (Nat.le_max_left a b) d ha,refsL_mono (Nat.le_max_right a b) ds hb⟩⟩) d
 exact key.1
theorem VR.bel {m:M}{w w':World}{d:D}{v:Value}(h:VR m w d v)(hb:Below w.heap.size w w'):VR m w' d v:=by
 obtain ⟨n,hn⟩:=refs_bound d;exact (Ext.of_below hb n).vr h hn
theorem all_get {α:Type}{p:α→Bool}{l:List α}(h:l.all p=true){i:Nat}{x:α}(hx:l[i]?=some x):p x=true:=(List.all_eq_true.1 h) x (List.mem_of_getElem? hx)
theorem cells_refs {n:Nat}{d:D}(h:d.refsB n=true){j:Nat}{c:D}(hc:d.cells[j]?=some c):c.refsB n=true:=by
 cases d with
 | t x =>
  simp only [D.cells,List.getElem?_map,Option.map_eq_some_iff] at hc;obtain ⟨y,_,rfl⟩:=hc;rfl
 | agg ds=>exact refsL_get (ds:=ds) h hc
 | undef=>simp [D.cells] at hc
 | tup _=>simp [D.cells] at hc
 | pan _=>simp [D.cells] at hc
 | _ =>
  cases j with
  | zero=>simp only [D.cells,List.getElem?_cons_zero,Option.some.injEq] at hc; subst hc; exact h
  | succ j=>simp [D.cells] at hc
theorem OR.ext {n:Nat}{m m':M}{w w':World}{x:MI}{o:AObj}(h:OR m w x o)(he:Ext n m w m' w')(hr:o.refsB n=true)(hb:w'.heap[x.blk]? = w.heap[x.blk]?):OR m' w' x o:=by
 cases o with
 | row bt s es =>
  obtain ⟨h1,h2,h3,h4,h5,cur,h6,h7,h8,h9⟩:=h;refine ⟨h1,h2,h3,h4,h5,cur,hb.trans h6,h7,h8,fun i j d c hd hc=>?_⟩
  obtain ⟨u,hu,hv,ho⟩:=h9 i j d c hd hc;exact ⟨u,hu,he.vr hv (cells_refs (all_get hr hd) hc),ho⟩
 | map ents clock =>
  obtain ⟨h1,arr,h2,h3,h4⟩:=h;refine ⟨h1,arr,hb.trans h2,h3,fun i k d b hi=>?_⟩
  obtain ⟨e,he1,hk,hv,hbn⟩:=h4 i k d b hi;exact ⟨e,he1,hk,he.vr hv (all_get (p:=fun e:T × D × Nat=>e.2.1.refsB n) (l:=ents) hr hi),hbn⟩
 | iter s pos=>exact ⟨h.1,hb.trans h.2⟩
theorem HR.lt {m:M}{w:World}{h:H}(hr:HR m w h){id:Nat}{x:MI}(hx:m id=some x):x.blk<w.heap.size:=by
 obtain ⟨ho,_⟩:=hr.dom id x hx;obtain ⟨o,ho⟩:=Option.isSome_iff_exists.1 ho;obtain ⟨x',hx',hor⟩:=hr.obj id o ho;rw [hx] at hx';obtain rfl:=Option.some.inj hx'
 cases o with
 | row=>obtain ⟨_,_,_,_,_,cur,hh,_⟩:=hor; exact (Array.getElem?_eq_some_iff.1 hh).1
 | map=>obtain ⟨_,arr,hh,_⟩:=hor; exact (Array.getElem?_eq_some_iff.1 hh).1
 | iter=>exact (Array.getElem?_eq_some_iff.1 hor.2).1
theorem HR.objLt {m:M}{w:World}{h:H}(hr:HR m w h){id:Nat}{o:AObj}(ho:h.objs id=some o):id<h.next:=by
 obtain ⟨x,hx,_⟩:=hr.obj id o ho;exact (hr.dom id x hx).2
theorem HR.below_ {m:M}{w w':World}{h:H}(hr:HR m w h)(hb:Below w.heap.size w w'):HR m w' h where
 obj:=fun id o ho=>by
  obtain ⟨x,hx,hor⟩:=hr.obj id o ho;exact ⟨x,hx,hor.ext (Ext.of_below hb h.next) (hr.below id o ho) (hb.block _ (hr.lt hx))⟩
 dom:=hr.dom
 inj:=hr.inj
 far:=hr.far
 old:=fun k hk=>Nat.lt_of_lt_of_le (hr.old k hk) hb.size
 below:=hr.below
 marks:=hr.marks
 glob:=hr.glob.step (Ext.of_below hb 0)
theorem AObj.refs_mono {n n':Nat}(hn:n≤n'){o:AObj}(h:o.refsB n=true):o.refsB n'=true:=by
 cases o with
 | row bt s es =>
  simp only [AObj.refsB,List.all_eq_true] at h ⊢;exact fun d hd=>D.refsB_mono hn d (h d hd)
 | map ents clock =>
  simp only [AObj.refsB,List.all_eq_true] at h ⊢;exact fun d hd=>D.refsB_mono hn _ (h d hd)
 | iter=>rfl
theorem upd_same {α:Type}(f:Nat→α)(i:Nat)(x:α):upd f i x i=x:=by simp [upd]
theorem upd_ne {α:Type}(f:Nat→α){i j:Nat}(x:α)(h:j≠i):upd f i x j=f j:=by simp [upd,h]
theorem HR.fresh {m:M}{w:World}{h:H}(hr:HR m w h){k:Nat}(hk:w.heap.size≤k):¬ m.blocks k:=by
 rintro (⟨id,x,hx,rfl⟩|hF)
 · have:=hr.lt hx; omega
 · have:=hr.old _ hF; omega
theorem HR.turn {m:M}{w w':World}{h:H}(hr:HR m w h){id:Nat}{x':MI}{o':AObj}{n':Nat}
   (hos:w'.os=w.os) (htape:w'.tape=w.tape) (hout:w'.output=w.output) (hsize:w.heap.size≤w'.heap.size)
   (hkeep:∀ k,k<w.heap.size→(∀ x,m id=some x→k≠x.blk)→w'.heap[k]? = w.heap[k]?)
   (hid:id<n') (hn:h.next≤n') (hnew:m id=none→h.next≤id)
   (hx:∀ x,m id=some x→x'=x∨(x.top<x'.top∧0<x.s∧x'.s=x.s))
   (hblk:w.heap.size≤x'.blk∨∃ x,m id=some x∧x'.blk=x.blk)
   (ho:Ext h.next m w (m.upd id (some x')) w'→OR (m.upd id (some x')) w' x' o') (hb:o'.refsB n'=true) (hm:∀ mk∈h.marks,id<mk→o'.refsB mk=true) :
   HR (m.upd id (some x')) w' { objs:=upd h.objs id (some o'),next:=n',marks:=h.marks }∧Ext h.next m w (m.upd id (some x')) w':=by
 have hext:Ext h.next m w (m.upd id (some x')) w':=by
   refine ⟨hos,htape,hout,hsize,fun k hk hS=>hkeep k hk fun x hmx e=>hS ⟨id,x,hmx,e.symm⟩,rfl,fun i y hi hy=>?_,fun i y hy=>?_⟩
   · by_cases e:i=id
     · subst e
       rw [M.upd_same] at hy;obtain rfl:=Option.some.inj hy
       cases hmi:m i with
       | none=>exact absurd (hnew hmi) (by omega)
       | some x=>exact ⟨x,rfl,hx x hmi⟩
     · rw [M.upd_ne _ _ e] at hy
       exact ⟨y,hy,.inl rfl⟩
   · by_cases e:i=id
     · subst e
       rw [M.upd_same] at hy;obtain rfl:=Option.some.inj hy;rcases hblk with h1|⟨x,hx1,hx2⟩
       · exact .inr h1
       · exact .inl ⟨i,x,hx1,hx2.symm⟩
     · rw [M.upd_ne _ _ e] at hy
       exact .inl ⟨i,y,hy,rfl⟩
 refine ⟨⟨fun i o hi=>?_,fun i y hy=>?_,fun i i' y y' hy hy' hbb=>?_,fun i y hy=>?_,fun k hk=>Nat.lt_of_lt_of_le (hr.old k hk) hsize,fun i o hi=>?_,fun mk hmk=>⟨Nat.le_trans (hr.marks mk hmk).1 hn,fun i o hi hlt=>?_⟩,hr.glob.step hext⟩,hext⟩
 · by_cases e:i=id
   · subst e
     simp only [upd_same,Option.some.injEq] at hi;subst hi;exact ⟨x',M.upd_same ..,ho hext⟩
   · simp only [upd_ne _ _ e] at hi
     obtain ⟨y,hy,hor⟩:=hr.obj i o hi;refine ⟨y,by rw [M.upd_ne _ _ e]; exact hy,hor.ext hext (hr.below i o hi) (hkeep _ (hr.lt hy) fun x hmx hbx=>e (hr.inj i id y x hy hmx hbx))⟩
 · by_cases e:i=id
   · subst e
     exact ⟨by simp [upd_same],hid⟩
   · rw [M.upd_ne _ _ e] at hy
     obtain ⟨h1,h2⟩:=hr.dom i y hy;exact ⟨by simpa [upd_ne _ _ e] using h1,Nat.lt_of_lt_of_le h2 hn⟩
 · have key:∀ i y,i≠id→m i=some y→y.blk=x'.blk→False:=by
     intro i y hne hy hbb;rcases hblk with h1|⟨x,hx1,hx2⟩
     · have:=hr.lt hy; omega
     · exact hne (hr.inj i id y x hy hx1 (hbb.trans hx2))
   by_cases e:i=id
   · by_cases e':i'=id
     · exact e.trans e'.symm
     · exfalso
       subst e;rw [M.upd_same] at hy;obtain rfl:=Option.some.inj hy;rw [M.upd_ne _ _ e'] at hy';exact key i' y' e' hy' hbb.symm
   · by_cases e':i'=id
     · exfalso
       subst e';rw [M.upd_same] at hy';obtain rfl:=Option.some.inj hy';rw [M.upd_ne _ _ e] at hy;exact key i y e hy hbb
     · rw [M.upd_ne _ _ e] at hy
       rw [M.upd_ne _ _ e'] at hy';exact hr.inj i i' y y' hy hy' hbb
 · by_cases e:i=id
   · subst e
     rw [M.upd_same] at hy;obtain rfl:=Option.some.inj hy;rcases hblk with h1|⟨x,hx1,hx2⟩
     · intro hF
       have:=hr.old _ hF;omega
     · rw [hx2]
       exact hr.far i x hx1
   · rw [M.upd_ne _ _ e] at hy
     exact hr.far i y hy
 · by_cases e:i=id
   · subst e
     simp only [upd_same,Option.some.injEq] at hi;subst hi;exact hb
   · simp only [upd_ne _ _ e] at hi
     exact AObj.refs_mono hn (hr.below i o hi)
 · by_cases e:i=id
   · subst e
     simp only [upd_same,Option.some.injEq] at hi;subst hi;exact hm mk hmk hlt
   · simp only [upd_ne _ _ e] at hi
     exact (hr.marks mk hmk).2 i o hi hlt
theorem HR.push {m:M}{w w':World}{h:H}(hr:HR m w h){x':MI}{o':AObj}(hw:Below w.heap.size w w')(hx:w.heap.size≤x'.blk)
  (ho:Ext h.next m w (m.upd h.next (some x')) w'→OR (m.upd h.next (some x')) w' x' o') (hb:o'.refsB h.next=true) :
  HR (m.upd h.next (some x')) w' (h.push o')∧Ext h.next m w (m.upd h.next (some x')) w':=by
 have hnone:m h.next=none:=by
  cases hq:m h.next with
  | none=>rfl
  | some x=>exact absurd (hr.dom _ x hq).2 (Nat.lt_irrefl _)
 refine hr.turn hw.os hw.tape hw.output hw.size (fun k hk _=>hw.block k hk) (Nat.lt_succ_self _) (Nat.le_succ _) (fun _=>Nat.le_refl _) (fun x hx'=>by rw [hnone] at hx'; cases hx') (.inl hx) ho
  (AObj.refs_mono (Nat.le_succ _) hb) fun mk hmk hlt=>absurd hlt (Nat.not_lt.2 (hr.marks mk hmk).1)
theorem HR.del {m:M}{w:World}{h:H}(hr:HR m w h)(id:Nat):HR (m.upd id none) w (h.del id)∧Ext h.next m w (m.upd id none) w:=by
 have hext:Ext h.next m w (m.upd id none) w:=by
   refine ⟨rfl,rfl,rfl,Nat.le_refl _,fun _ _ _=>rfl,rfl,fun i y _ hy=>?_,fun i y hy=>?_⟩
   · by_cases e:i=id
     · subst e; rw [M.upd_same] at hy; cases hy
     · rw [M.upd_ne _ _ e] at hy; exact ⟨y,hy,.inl rfl⟩
   · by_cases e:i=id
     · subst e; rw [M.upd_same] at hy; cases hy
     · rw [M.upd_ne _ _ e] at hy; exact .inl ⟨i,y,hy,rfl⟩
 refine ⟨⟨fun i o hi=>?_,fun i y hy=>?_,fun i i' y y' hy hy' hbb=>?_,fun i y hy=>?_,fun k hk=>hr.old k hk,fun i o hi=>?_,fun mk hmk=>⟨(hr.marks mk hmk).1,fun i o hi hlt=>?_⟩,hr.glob.step hext⟩,hext⟩
 all_goals by_cases e:i=id
 · subst e; simp [H.del,upd_same] at hi
 · simp only [H.del,upd_ne _ _ e] at hi
   obtain ⟨y,hy,hor⟩:=hr.obj i o hi;exact ⟨y,by rw [M.upd_ne _ _ e]; exact hy,hor.ext hext (hr.below i o hi) rfl⟩
 · subst e; rw [M.upd_same] at hy; cases hy
 · rw [M.upd_ne _ _ e] at hy
   obtain ⟨h1,h2⟩:=hr.dom i y hy;exact ⟨by simpa [H.del,upd_ne _ _ e] using h1,h2⟩
 · subst e; rw [M.upd_same] at hy; cases hy
 · by_cases e':i'=id
   · subst e'; rw [M.upd_same] at hy'; cases hy'
   · rw [M.upd_ne _ _ e] at hy
     rw [M.upd_ne _ _ e'] at hy';exact hr.inj i i' y y' hy hy' hbb
 · subst e; rw [M.upd_same] at hy; cases hy
 · rw [M.upd_ne _ _ e] at hy
   exact hr.far i y hy
 · subst e; simp [H.del,upd_same] at hi
 · simp only [H.del,upd_ne _ _ e] at hi
   exact hr.below i o hi
 · subst e; simp [H.del,upd_same] at hi
 · simp only [H.del,upd_ne _ _ e] at hi
   exact (hr.marks mk hmk).2 i o hi hlt
theorem HR.dropTo {m m':M}{w w':World}{h h':H}(hr:HR m w h)(hr':HR m' w' h')(hn:h.next≤h'.next)(hm:h'.marks=h.next::h.marks)(he:Ext h.next m w m' w') :
   ∃ m'',HR m'' w' (h'.dropTo h)∧Ext h.next m w m'' w'∧Ext h.next m' w' m'' w':=by
 refine ⟨⟨fun id=>if id<h.next then m' id else none,m'.F⟩,?_,?_,?_⟩
 · refine ⟨fun i o hi=>?_,fun i y hy=>?_,fun i i' y y' hy hy' hbb=>?_,fun i y hy=>?_,fun k hk=>hr'.old k hk,fun i o hi=>?_,fun mk hmk=>⟨(hr.marks mk hmk).1,fun i o hi hlt=>?_⟩,hr'.glob.sub fun k hk=>hk.elim (fun ⟨i,y,hy,hb⟩=>.inl (by
     by_cases e:i<h.next
     · simp only [if_pos e] at hy; exact ⟨i,y,hy,hb⟩
     · simp only [if_neg e] at hy; cases hy)) .inr⟩
   all_goals by_cases e:i<h.next
   all_goals try (simp only [H.dropTo,if_neg e] at hi; cases hi)
   all_goals try (simp only [if_neg e] at hy; cases hy)
   · simp only [H.dropTo,if_pos e] at hi
     obtain ⟨y,hy,hor⟩:=hr'.obj i o hi;refine ⟨y,by simp only [if_pos e]; exact hy,?_⟩
     refine hor.ext (n:=h.next) (m:=m') (w:=w') ?_ ((hr'.marks h.next (by rw [hm]; simp)).2 i o hi e) rfl
     refine ⟨rfl,rfl,rfl,Nat.le_refl _,fun _ _ _=>rfl,rfl,fun i y hi hy=>?_,fun i y hy=>?_⟩
     · simp only [if_pos hi] at hy; exact ⟨y,hy,.inl rfl⟩
     · by_cases e':i<h.next
       · simp only [if_pos e'] at hy; exact .inl ⟨i,y,hy,rfl⟩
       · simp only [if_neg e'] at hy; cases hy
   · simp only [if_pos e] at hy
     exact ⟨by simpa [H.dropTo,e] using (hr'.dom i y hy).1,e⟩
   · simp only [if_pos e] at hy
     by_cases e':i'<h.next
     · simp only [if_pos e'] at hy'; exact hr'.inj i i' y y' hy hy' hbb
     · simp only [if_neg e'] at hy'; cases hy'
   · simp only [if_pos e] at hy
     exact hr'.far i y hy
   · simp only [H.dropTo,if_pos e] at hi
     exact (hr'.marks h.next (by rw [hm]; simp)).2 i o hi e
   · simp only [H.dropTo,if_pos e] at hi
     exact (hr'.marks mk (by rw [hm]; exact List.mem_cons_of_mem _ hmk)).2 i o hi hlt
 · refine ⟨he.os,he.tape,he.output,he.size,he.keep,he.away,fun i y hi hy=>?_,fun i y hy=>?_⟩
   · simp only [if_pos hi] at hy; exact he.refs i y hi hy
   · by_cases e':i<h.next
     · simp only [if_pos e'] at hy; exact he.newb i y hy
     · simp only [if_neg e'] at hy; cases hy
 · refine ⟨rfl,rfl,rfl,Nat.le_refl _,fun _ _ _=>rfl,rfl,fun i y hi hy=>?_,fun i y hy=>?_⟩
   · simp only [if_pos hi] at hy; exact ⟨y,hy,.inl rfl⟩
   · by_cases e':i<h.next
     · simp only [if_pos e'] at hy; exact .inl ⟨i,y,hy,rfl⟩
     · simp only [if_neg e'] at hy; cases hy
end Vai

namespace Vai
open Go
open Go.RowKit (Below)
variable [Gl]
section
variable {P:Program}
theorem tk_known {t:TypeId}(h:(tk P t).form≠0):∃ d,P.underlying t=some d∧tk P t = .of d:=by
 simp only [tk_eq] at *;unfold tk0 at *
 cases hu:P.underlying t with
 | none=>simp [hu,TK.form] at h
 | some d=>exact ⟨d,rfl,rfl⟩
theorem tk_slice {t e:TypeId}(h:tk P t = .slice e):P.underlying t=some (.slice e):=by
 obtain ⟨d,hd,hk⟩:=tk_known (P:=P) (t:=t) (by rw [h]; simp [TK.form])
 rw [h] at hk;cases d<;>first|(exfalso; cases hk; done)|(cases hk; first|exact hd|exact ⟨_,hd⟩|exact ⟨_,hd,rfl⟩|exact ⟨_,_,_,hd⟩)
theorem tk_array {t e:TypeId}{n:Nat}(h:tk P t = .array n e):P.underlying t=some (.array n e):=by
 obtain ⟨d,hd,hk⟩:=tk_known (P:=P) (t:=t) (by rw [h]; simp [TK.form])
 rw [h] at hk;cases d<;>first|(exfalso; cases hk; done)|(cases hk; first|exact hd|exact ⟨_,hd⟩|exact ⟨_,hd,rfl⟩|exact ⟨_,_,_,hd⟩)
theorem tk_struct {t:TypeId}{fs:List (Nat × TypeId)}(h:tk P t = .struct fs):∃ fields:Array Field,P.underlying t=some (.struct fields)∧fs=fields.toList.map fun f=>(f.offset,f.type):=by
 obtain ⟨d,hd,hk⟩:=tk_known (P:=P) (t:=t) (by rw [h]; simp [TK.form])
 rw [h] at hk;cases d<;>first|(exfalso; cases hk; done)|(cases hk; first|exact hd|exact ⟨_,hd⟩|exact ⟨_,hd,rfl⟩|exact ⟨_,_,_,hd⟩)
theorem tk_int {t:TypeId}{k:IntKind}(h:tk P t = .int k):P.underlying t=some (.int k):=by
 obtain ⟨d,hd,hk⟩:=tk_known (P:=P) (t:=t) (by rw [h]; simp [TK.form])
 rw [h] at hk;cases d<;>first|(exfalso; cases hk; done)|(cases hk; first|exact hd|exact ⟨_,hd⟩|exact ⟨_,hd,rfl⟩|exact ⟨_,_,_,hd⟩)
theorem tk_bool {t:TypeId}(h:tk P t = .bool):P.underlying t=some .bool:=by
 obtain ⟨d,hd,hk⟩:=tk_known (P:=P) (t:=t) (by rw [h]; simp [TK.form])
 rw [h] at hk;cases d<;>first|(exfalso; cases hk; done)|(cases hk; first|exact hd|exact ⟨_,hd⟩|exact ⟨_,hd,rfl⟩|exact ⟨_,_,_,hd⟩)
theorem tk_str {t:TypeId}(h:tk P t = .str):P.underlying t=some .string:=by
 obtain ⟨d,hd,hk⟩:=tk_known (P:=P) (t:=t) (by rw [h]; simp [TK.form])
 rw [h] at hk;cases d<;>first|(exfalso; cases hk; done)|(cases hk; first|exact hd|exact ⟨_,hd⟩|exact ⟨_,hd,rfl⟩|exact ⟨_,_,_,hd⟩)
theorem tk_ptr {t e:TypeId}(h:tk P t = .ptr e):P.underlying t=some (.pointer e):=by
 obtain ⟨d,hd,hk⟩:=tk_known (P:=P) (t:=t) (by rw [h]; simp [TK.form])
 rw [h] at hk;cases d<;>first|(exfalso; cases hk; done)|(cases hk; first|exact hd|exact ⟨_,hd⟩|exact ⟨_,hd,rfl⟩|exact ⟨_,_,_,hd⟩)
theorem tk_map {t k e:TypeId}(h:tk P t = .map k e):P.underlying t=some (.map k e):=by
 obtain ⟨d,hd,hk⟩:=tk_known (P:=P) (t:=t) (by rw [h]; simp [TK.form])
 rw [h] at hk;cases d<;>first|(exfalso; cases hk; done)|(cases hk; first|exact hd|exact ⟨_,hd⟩|exact ⟨_,hd,rfl⟩|exact ⟨_,_,_,hd⟩)
theorem tk_iface {t:TypeId}(h:tk P t = .iface):∃ ms,P.underlying t=some (.interface ms):=by
 obtain ⟨d,hd,hk⟩:=tk_known (P:=P) (t:=t) (by rw [h]; simp [TK.form])
 rw [h] at hk;cases d<;>first|(exfalso; cases hk; done)|(cases hk; first|exact hd|exact ⟨_,hd⟩|exact ⟨_,hd,rfl⟩|exact ⟨_,_,_,hd⟩)
theorem tk_func {t:TypeId}(h:tk P t = .func):∃ a b c,P.underlying t=some (.func a b c):=by
 obtain ⟨d,hd,hk⟩:=tk_known (P:=P) (t:=t) (by rw [h]; simp [TK.form])
 rw [h] at hk;cases d<;>first|(exfalso; cases hk; done)|(cases hk; first|exact hd|exact ⟨_,hd⟩|exact ⟨_,hd,rfl⟩|exact ⟨_,_,_,hd⟩)
theorem sz_some {t:TypeId}{n:Nat}(h:sz P t=some n):∃ i,P.info? t=some i∧i.size=n:=by
 rw [sz_eq] at h;unfold sz0 at h;exact Option.map_eq_some_iff.1 h
theorem run_sz {t:TypeId}{n:Nat}(h:sz P t=some n)(w:World):(Go.sizeOf t).run P w = .ok n w:=by
 obtain ⟨i,hi,rfl⟩:=sz_some h;simp [Go.sizeOf,typeInfo,hi]
theorem run_isAgg_tk {t:TypeId}(h:(tk P t).form≠0)(w:World):(isAgg t).run P w = .ok (tk P t).isAgg w:=by
 obtain ⟨d,hd,hk⟩:=tk_known h;rw [hk] at h ⊢;unfold isAgg;rw [Sem.run_bind,run_underlying hd];cases d<;>simp_all [TK.of,TK.isAgg,TK.form]
def CellsAt (w:World)(m:M)(a:Addr)(cs:List D):Prop:=∀ (j:Nat) (c:D),cs[j]?=some c→∃ u,w.cell? (a.add j)=some u∧VR m w c u∧u.oneCell'=true
theorem isAgg_form {k:TK}:k.isAgg=(k.form == 1):=by cases k<;>rfl
theorem part_load {w:World}{m:M}{a:Addr}{cs:List D}{t:TypeId}{f:Nat}{d:D}(hc:CellsAt w m a cs)(h:partD P t cs f=some d) :
   ∃ v,(loadVar t (a.add f)).run P w = .ok v w∧VR m w d v:=by
 unfold partD at h;have hform:(tk P t).form=0∨(tk P t).form=1∨(tk P t).form=2:=by cases tk P t<;>simp [TK.form]
 rcases hform with hf|hf|hf
 · simp [hf] at h
 · simp only [hf] at h
   have hagg:(tk P t).isAgg=true:=by rw [isAgg_form,hf]; rfl
   cases hs:sz P t with
   | none=>simp [hs] at h
   | some n =>
    simp only [hs] at h;split at h
    · rename_i hle
      simp only [Option.some.injEq] at h;subst h;have hus:∀ j,j<n→∃ u,w.cell? ((a.add f).add j)=some u∧(∀ c,cs[f+j]?=some c→VR m w c u)∧u.oneCell'=true:=by
        intro j hj;have hlt:f+j<cs.length:=by omega
        obtain ⟨u,hu,hv,ho⟩:=hc (f+j) cs[f+j] (List.getElem?_eq_getElem hlt);refine ⟨u,by rw [Addr.add_add]; exact hu,fun c hcc=>?_,ho⟩
        rw [List.getElem?_eq_getElem hlt] at hcc;cases hcc; exact hv
      let g:Nat→Value:=fun j=>(w.cell? ((a.add f).add j)).getD undef
      have hg:∀ j,j<n→w.cell? ((a.add f).add j)=some (g j):=by
        intro j hj;obtain ⟨u,hu,_⟩:=hus j hj;simp only [g,hu,Option.getD_some]
      have hrun:=run_loadCells (P:=P) w (a.add f) n g hg;refine ⟨.agg ((List.range n).map g).toArray,?_,VR.mkAgg (by simp; omega) ?_ ?_⟩
      · simp [loadVar,run_isAgg_tk (P:=P) (t:=t) (by rw [hf]; decide),hagg,run_sz hs,hrun]
      · intro i v hv
        have hi:i<n:=by
         by_cases hi:i<n
         · exact hi
         · simp [hi] at hv
        obtain ⟨u,hu,_,ho⟩:=hus i hi;have:g i=v:=by simpa [hi] using hv
        rw [←this];simp only [g,hu,Option.getD_some];exact ho
      · intro i dd v hd hv
        have hi:i<n:=by
         by_cases hi:i<n
         · exact hi
         · simp [hi] at hv
        obtain ⟨u,hu,hvr,_⟩:=hus i hi;have:g i=v:=by simpa [hi] using hv
        rw [←this];simp only [g,hu,Option.getD_some];refine hvr dd ?_;simpa [List.getElem?_take,hi] using hd
    · cases h
 · simp only [hf] at h
   have hagg:(tk P t).isAgg=false:=by rw [isAgg_form,hf]; rfl
   obtain ⟨u,hu,hv,_⟩:=hc f d h;exact ⟨u,by simp [loadVar,run_isAgg_tk (P:=P) (t:=t) (by rw [hf]; decide),hagg,hu],hv⟩
theorem ptr_at {w:World}{m:M}{h:H}{id i f top:Nat}{v:Value}{bt:TypeId}{s:Nat}{es:List D}(hr:HR m w h)(hv:VR m w (.ptr id i f top) v)(he:h.els id top=some (bt,s,es)) :
  ∃ x,m id=some x∧x.top=top∧x.s=s∧v = .pointer (some ⟨x.blk,i*s+f,none⟩)∧OR m w x (.row bt s es)∧h.objs id=some (.row bt s es)∧es.length=top:=by
 unfold H.els at he
 cases ho:h.objs id with
 | none=>simp [ho] at he
 | some o =>
  cases o with
  | row bt' s' es' =>
   simp only [ho] at he;split at he
   · rename_i hl
     simp only [Option.some.injEq,Prod.mk.injEq] at he;obtain ⟨rfl,rfl,rfl⟩:=he;obtain ⟨x,hx,hor⟩:=hr.obj id _ ho;have hor':=hor;obtain ⟨h1,_,h3,_⟩:=hor
     cases hv with
     | ptr h1' hp =>
      obtain ⟨_,hv⟩:=hp x hx;have:=hv (by omega)
      rw [h1] at this;exact ⟨x,hx,by omega,h1,this,hor',rfl,hl⟩
   · cases he
  | map=>simp [ho] at he
  | iter=>simp [ho] at he
theorem els_at {w:World}{m:M}{h:H}{id top:Nat}{bt:TypeId}{s:Nat}{es:List D}(hr:HR m w h)(he:h.els id top=some (bt,s,es)) :
  ∃ x,m id=some x∧x.top=top∧x.s=s∧OR m w x (.row bt s es)∧h.objs id=some (.row bt s es)∧es.length=top:=by
 unfold H.els at he
 cases ho:h.objs id with
 | none=>simp [ho] at he
 | some o =>
  cases o with
  | row bt' s' es' =>
   simp only [ho] at he;split at he
   · rename_i hl
     simp only [Option.some.injEq,Prod.mk.injEq] at he;obtain ⟨rfl,rfl,rfl⟩:=he;obtain ⟨x,hx,hor⟩:=hr.obj id _ ho;have hor':=hor;obtain ⟨h1,_,h3,_⟩:=hor;exact ⟨x,hx,by omega,h1,hor',rfl,hl⟩
   · cases he
  | map=>simp [ho] at he
  | iter=>simp [ho] at he
theorem lit_add (b o n:Nat):(⟨b,o,none⟩:Addr).add n=⟨b,o+n,none⟩:=Addr.add_lit b o n
theorem row_cells {w:World}{m:M}{x:MI}{bt:TypeId}{s:Nat}{es:List D}(hor:OR m w x (.row bt s es)){i:Nat}{d:D}(hi:es[i]?=some d):CellsAt w m ⟨x.blk,i*s,none⟩ d.cells:=by
 obtain ⟨h1,h2,h3,h4,h5,cur,hb,hsz,hlen,hcells⟩:=hor;intro j c hc;obtain ⟨u,hu,hv,ho⟩:=hcells i j d c hi hc;exact ⟨u,by rw [lit_add,cell_of_row w x.blk _ cur bt (0,0) hb]; exact hu,hv,ho⟩
theorem t_cells {w:World}{m:M}{a:Addr}{x:T}{us:Nat→Value}(hc:∀ (j:Nat)(c:T),x.cells[j]?=some c→w.cell? (a.add j)=some (us j)∧(us j).oneCell'=true)
  (h:∀ (j:Nat) (c:T),x.cells[j]?=some c→TR w m.blocks c (us j)):CellsAt w m a (x.cells.map .t):=by
 intro j c hcj;simp only [List.getElem?_map,Option.map_eq_some_iff] at hcj;obtain ⟨y,hy,rfl⟩:=hcj;exact ⟨us j,(hc j y hy).1,.t (h j y hy),(hc j y hy).2⟩
theorem flat_cells {w:World}{m:M}{x:MI}{bt:TypeId}{s:Nat}{es:List D}(hor:OR m w x (.row bt s es)):CellsAt w m ⟨x.blk,0,none⟩ (es.flatMap D.cells)∧(es.flatMap D.cells).length=es.length*s:=by
 have hor':=hor;obtain ⟨h1,h2,h3,h4,h5,cur,hb,hsz,hlen,hcells⟩:=hor;have hl:∀ es':List D,(∀ (i:Nat) (d:D),es'[i]?=some d→d.cells.length=s)→(es'.flatMap D.cells).length=es'.length*s∧∀ j c,(es'.flatMap D.cells)[j]?=some c→∃ (i k:Nat) (d:D),es'[i]?=some d∧d.cells[k]?=some c∧j=i*s+k:=by
  intro es'
  induction es' with
  | nil=>intro _; exact ⟨by simp,fun j c hc=>by simp at hc⟩
  | cons d ds ih =>
   intro hh;have hd:=hh 0 d rfl;obtain ⟨ih1,ih2⟩:=ih fun i d' hd'=>hh (i+1) d' (by simpa using hd')
   refine ⟨by simp [List.flatMap_cons,hd,ih1,Nat.add_mul,Nat.add_comm],fun j c hc=>?_⟩
   rw [List.flatMap_cons] at hc;by_cases hj:j<s
   · rw [List.getElem?_append_left (by omega)] at hc
     exact ⟨0,j,d,rfl,hc,by omega⟩
   · rw [List.getElem?_append_right (by omega),hd] at hc
     obtain ⟨i,k,d',h1,h2,h3⟩:=ih2 (j-s) c hc;exact ⟨i+1,k,d',by simpa using h1,h2,by rw [Nat.succ_mul]; omega⟩
 obtain ⟨hl1,hl2⟩:=hl es hlen;refine ⟨fun j c hc=>?_,hl1⟩
 obtain ⟨i,k,d,hd,hk,rfl⟩:=hl2 j c hc;obtain ⟨u,hu,hv,ho⟩:=row_cells hor' hd k c hk;refine ⟨u,?_,hv,ho⟩;rw [lit_add] at hu ⊢;rw [Nat.zero_add];exact hu
theorem whole_some {t:TypeId}{i f top s:Nat}(h:wholeArr P t i f top s=true):∃ n e,tk P t = .array n e∧i=0∧f=0∧top=n∧sz P e=some s∧sz P t=some (n*s):=by
 unfold wholeArr at h
 cases ht:tk P t with
 | array n e =>
  simp only [ht,Bool.and_eq_true,beq_iff_eq] at h;obtain ⟨⟨⟨⟨h1,h2⟩,h3⟩,h4⟩,h5⟩:=h;exact ⟨n,e,rfl,h1,h2,h3,h4,h5⟩
 | _=>simp [ht] at h
theorem load_sound {w:World}{m:M}{h:H}{t:TypeId}{a d:D}{v:Value}(hr:HR m w h)(hv:VR m w a v)(hl:loadD P h t a=some d) :
  ∃ v',(Instr.loadAt t v).run P w = .ok v' w∧VR m w d v':=by
 cases a with
 | ptr id i f top =>
  simp only [loadD] at hl
  cases he:h.els id top with
  | none=>simp [he] at hl
  | some x =>
   obtain ⟨bt,s,es⟩:=x;simp only [he] at hl;obtain ⟨x,hx,ht,hs,rfl,hor,_,hlen⟩:=ptr_at hr hv he;split at hl
   · rename_i hw
     obtain ⟨n,e,h1,rfl,rfl,h4,h5,h6⟩:=whole_some hw;simp only [Option.some.injEq] at hl;subst hl;obtain ⟨hc,hcl⟩:=flat_cells hor;have hp:partD P t (es.flatMap D.cells) 0=some (mkAgg (es.flatMap D.cells)):=by
      simp only [partD,h1,TK.form,h6];rw [if_pos (by rw [hcl,hlen,h4]; omega)]
      simp only [List.drop_zero];rw [List.take_of_length_le (by rw [hcl,hlen,h4]; omega)]
     obtain ⟨v',hv',hvr⟩:=part_load hc hp;refine ⟨v',?_,hvr⟩;rw [lit_add] at hv';simpa [Instr.loadAt,Instr.sureAddr] using hv'
   · cases hi:es[i]? with
     | none=>simp [hi] at hl
     | some e =>
      simp only [hi] at hl;obtain ⟨v',hv',hvr⟩:=part_load (row_cells hor hi) hl;refine ⟨v',?_,hvr⟩;rw [lit_add] at hv';simpa [Instr.loadAt,Instr.sureAddr] using hv'
 | eptr x f =>
  simp only [loadD] at hl
  cases hv with
  | eptr hS hc hx hne =>
   obtain ⟨v',hv',hvr⟩:=part_load (t_cells hc hx) hl;exact ⟨v',by simpa [Instr.loadAt,Instr.sureAddr] using hv',hvr⟩
 | _=>simp [loadD] at hl
theorem nilCheck_sound {w:World}{m:M}{h:H}{a d:D}{v:Value}{o:Oper}{ρ:Operand→Value}{x:Operand}(ho:o.op = .nilCheck x)(hx:ρ x=v)(hr:HR m w h)(hv:VR m w a v)(hl:nilCheckD h a=some d) :
  (execOp ρ o).run P w = .ok (.value v) w∧VR m w d v:=by
 cases a with
 | ptr id i f top =>
  simp only [nilCheckD] at hl
  cases he:h.els id top with
  | none=>simp [he] at hl
  | some y =>
   obtain ⟨bt,s,es⟩:=y;simp only [he,Option.some.injEq] at hl;subst hl;obtain ⟨x,hx',ht,hs,rfl,hor,_,hlen⟩:=ptr_at hr hv he;exact ⟨by simp [execOp,ho,hx],hv⟩
 | eptr y f =>
  simp only [nilCheckD,Option.some.injEq] at hl;subst hl;have hv':=hv
  cases hv with
  | eptr hS hc hx' hne=>exact ⟨by simp [execOp,ho,hx],hv'⟩
 | func fn fs cs =>
  cases fn with
  | func k =>
   simp only [nilCheckD,Option.some.injEq] at hl;subst hl;have hv':=hv
   cases hv with
   | func=>exact ⟨by simp [execOp,ho,hx],hv'⟩
  | _=>simp [nilCheckD] at hl
 | _=>simp [nilCheckD] at hl
theorem fieldAddr_sound {w:World}{m:M}{h:H}{t:TypeId}{a d:D}{v:Value}{f:Nat}(hr:HR m w h)(hv:VR m w a v)(hl:fieldAddrD P h t a f=some d) :
  ∃ v',(Instr.fieldAt t v f).run P w = .ok v' w∧VR m w d v':=by
 unfold fieldAddrD at hl
 cases ht:tk P t with
 | struct fs =>
  simp only [ht] at hl
  cases hf:fs[f]? with
  | none=>simp [hf] at hl
  | some p =>
   obtain ⟨off,ty⟩:=p;simp only [hf] at hl
   cases hs:sz P ty with
   | none=>simp [hs] at hl
   | some n =>
    cases n with
    | zero=>simp [hs] at hl
    | succ n =>
     simp only [hs] at hl;obtain ⟨fields,hu,rfl⟩:=tk_struct ht;simp only [List.getElem?_map,Option.map_eq_some_iff,Prod.mk.injEq] at hf;obtain ⟨fl,hfl,rfl,rfl⟩:=hf;have hfl':fields[f]?=some fl:=by simpa using hfl
     have run:∀ ad:Addr,(Instr.fieldAt t (.pointer (some ad)) f).run P w = .ok (.pointer (some (ad.add fl.offset))) w:=by
      intro ad;simp [Instr.fieldAt,run_underlying hu,hfl',Instr.sureAddr,fieldPlace,run_sz hs]
     cases a with
     | ptr id i g top =>
      simp only at hl
      cases he:h.els id top with
      | none=>simp [he] at hl
      | some y =>
       obtain ⟨bt,s,es⟩:=y;simp only [he,Option.some.injEq] at hl;subst hl;obtain ⟨x,hx,htop,hxs,rfl,hor,_,hlen⟩:=ptr_at hr hv he;refine ⟨_,run _,.ptr rfl fun x' hx'=>?_⟩
       rw [hx] at hx';obtain rfl:=Option.some.inj hx';exact ⟨by omega,fun _=>by rw [lit_add,hxs,Nat.add_assoc]⟩
     | eptr y g =>
      simp only [Option.some.injEq] at hl;subst hl
      cases hv with
      | eptr hS hc hx hne=>exact ⟨_,run _,by rw [Addr.add_add]; exact .eptr hS hc hx hne⟩
     | _=>simp at hl
 | _=>simp [ht] at hl
theorem indexAddr_sound {w:World}{m:M}{h:H}{t:TypeId}{a i d:D}{v u:Value}(hr:HR m w h)(hv:VR m w a v)(hu:VR m w i u)(hl:indexAddrD P h t a i=some d) :
  ∃ v',(Instr.indexAt t v u).run P w = .ok v' w∧VR m w d v':=by
 unfold indexAddrD at hl
 cases i with
 | t it =>
  cases it with
  | int k i =>
   simp only at hl;split at hl
   · rename_i h0
     cases hu with
     | t hu =>
     cases hu
     cases ht:tk P t with
     | slice e =>
      simp only [ht] at hl;have hut:=tk_slice ht
      cases a with
      | t x =>
       cases x with
       | slice es =>
        simp only at hl
        cases hi:es[i.toNat]? with
        | none=>simp [hi] at hl
        | some y =>
          simp only [hi] at hl;split at hl
          · rename_i hs
            simp only [Option.some.injEq] at hl;subst hl
            cases hv with
            | t hv =>
            cases hv with
            | @slice _ ad len cap s us hln hc hss hcell hh =>
              have hlt:i.toNat<es.length:=(List.getElem?_eq_some_iff.1 hi).1;have hys:=hss _ y hi;have hs1:=hs.1;rw [hys] at hs1;refine ⟨.pointer (some (ad.add (i.toNat*s))),?_,?_⟩
              · have:i<(len:Int):=by omega
                simp [Instr.indexAt,asIntOf,run_underlying hut,h0,this,run_sz hs1.symm]
              · have hne:y.cells≠[]:=fun hq=>by rw [hq] at hs; exact absurd hs.2 (by simp)
                have hb:¬ m.blocks ad.block:=by
                 cases hq:y.cells with
                 | nil=>exact absurd hq hne
                 | cons c cs=>exact (hcell i.toNat 0 y c hi (by rw [hq]; rfl)).1
                refine VR.eptr (us:=us i.toNat) (f:=0) (a:=ad.add (i.toNat*s)) (by rw [add_block]; exact hb) (fun j c hj=>?_) (fun j c hj=>hh i.toNat j y c hi hj) hne
                rw [Addr.add_add];exact (hcell i.toNat j y c hi hj).2
          · cases hl
       | _=>simp at hl
      | row id i0 len top =>
       simp only at hl
       cases he:h.els id top with
       | none=>simp [he] at hl
       | some y =>
        obtain ⟨bt,s,es⟩:=y;simp only [he] at hl;split at hl
        · rename_i hcond
          obtain ⟨hs,hil,hle⟩:=hcond;simp only [Option.some.injEq] at hl;subst hl;obtain ⟨x,hx,htop,hxs,hor,hob,hlen⟩:=els_at hr he;clear hor hob hr
          cases hv with
          | row h1 hp =>
            obtain ⟨_,hp'⟩:=hp x hx;obtain ⟨hit,ad,cap,rfl,hlc,hcx,had⟩:=hp' htop;clear hp hp';have had:=had (by omega)
            subst had;refine ⟨.pointer (some ((⟨x.blk,i0*x.s,none⟩:Addr).add (i.toNat*s))),?_,.ptr rfl fun x' hx'=>?_⟩
            · have:i<(len:Int):=by omega
              simp [Instr.indexAt,asIntOf,run_underlying hut,h0,this,run_sz hs.symm]
            · rw [hx] at hx'
              obtain rfl:=Option.some.inj hx';refine ⟨by omega,fun _=>?_⟩
              rw [lit_add,hxs,Nat.add_mul,Nat.add_zero]
        · cases hl
      | _=>simp at hl
     | array n e =>
      simp only [ht] at hl;have hut:=tk_array ht
      cases a with
      | ptr id i0 f0 top =>
       cases i0 with
       | succ i0=>simp at hl
       | zero =>
       cases f0 with
       | succ f0=>simp at hl
       | zero =>
       simp only at hl
       cases he:h.els id top with
       | none=>simp [he] at hl
       | some y =>
        obtain ⟨bt,s,es⟩:=y;simp only [he] at hl;split at hl
        · rename_i hcond
          obtain ⟨hs,htn,hil⟩:=hcond;simp only [Option.some.injEq] at hl;subst hl;obtain ⟨x,hx,htop,hxs,rfl,hor,_,hlen⟩:=ptr_at hr hv he;refine ⟨.pointer (some ((⟨x.blk,0*s+0,none⟩:Addr).add (i.toNat*s))),?_,.ptr rfl fun x' hx'=>?_⟩
          · have:i<(n:Int):=by omega
            simp [Instr.indexAt,asIntOf,run_underlying hut,h0,this,run_sz hs.symm,Instr.sureAddr]
          · rw [hx] at hx'
            obtain rfl:=Option.some.inj hx';refine ⟨by omega,fun _=>?_⟩
            rw [lit_add,hxs];simp
        · cases hl
      | eptr y f =>
       simp only at hl
       cases hs:sz P e with
       | none=>simp [hs] at hl
       | some s =>
        simp only [hs] at hl;split at hl
        · rename_i hil
          cases hl
          cases hv with
          | @eptr _ _ ad us hS hc hx hne =>
          refine ⟨.pointer (some ((ad.add f).add (i.toNat*s))),?_,?_⟩
          · have:i<(n:Int):=by omega
            simp [Instr.indexAt,asIntOf,run_underlying hut,h0,this,run_sz hs,Instr.sureAddr]
          · rw [Addr.add_add]; exact .eptr hS hc hx hne
        · cases hl
      | _=>simp at hl
     | _=>simp [ht] at hl
   · cases hl
  | _=>simp at hl
 | _=>simp at hl
theorem boundD_sound {w:World}{m:M}{d:Option D}{v:Option Value}{r:Option Int}(hv:∀ d',d=some d'→∃ v',v=some v'∧VR m w d' v')(hn:d=none→v=none)(h:boundD d=some r) :
  (r=none∧v=none)∨∃ k n,r=some n∧v=some (.int k n):=by
 cases d with
 | none=>simp only [boundD,Option.some.injEq] at h; exact .inl ⟨h.symm,hn rfl⟩
 | some d =>
  cases d with
  | t x =>
   cases x with
   | int k n =>
    simp only [boundD,Option.some.injEq] at h;obtain ⟨v',hv',hvr⟩:=hv _ rfl
    cases hvr with
    | t hx=>cases hx; exact .inr ⟨k,n,h.symm,hv'⟩
   | _=>simp [boundD] at h
  | _=>simp [boundD] at h
theorem run_bounds {isS:Bool}{len cap:Nat}{lo hi:Option Value}{l u:Int}{w:World}(hlc:(len:Int)≤cap)
   (hl:(lo=none∧l=0)∨∃ k,lo=some (.int k l)) (hu:(hi=none∧u=len)∨∃ k,hi=some (.int k u)) (h0:0≤l) (h1:l≤u) (h2:u≤cap) :
   (Instr.sliceBounds isS len cap lo hi none).run P w = .ok (l.toNat,u.toNat,cap) w:=by
 rcases hl with ⟨rfl,rfl⟩|⟨k,rfl⟩<;>rcases hu with ⟨rfl,rfl⟩|⟨k',rfl⟩
 · simp [Instr.sliceBounds]
 · have hu0:0≤u:=by omega
   simp [Instr.sliceBounds,Instr.sliceBound,asIntOf,hu0,h2]
 · have h1':l≤(len:Int):=h1
   simp [Instr.sliceBounds,Instr.sliceBound,asIntOf,h0,h1']
 · have hu0:0≤u:=by omega
   have hlu:l≤max u 0:=by omega
   simp [Instr.sliceBounds,Instr.sliceBound,asIntOf,hu0,h2,h0,hlu]
theorem slice_sound {w:World}{m:M}{h:H}{t:TypeId}{a d:D}{v:Value}{lo hi:Option D}{lv hv':Option Value}(hr:HR m w h)(hv:VR m w a v)
  (hlo:∀ d',lo=some d'→∃ v',lv=some v'∧VR m w d' v') (hlo':lo=none→lv=none) (hhi:∀ d',hi=some d'→∃ v',hv'=some v'∧VR m w d' v') (hhi':hi=none→hv'=none)
  (hl:sliceD P h t a lo hi none=some d):∃ v',(Instr.sliceAt t v lv hv' none).run P w = .ok v' w∧VR m w d v':=by
 unfold sliceD at hl
 cases hbl:boundD lo with
 | none=>simp [hbl] at hl
 | some l =>
 cases hbu:boundD hi with
 | none=>simp [hbl,hbu] at hl
 | some u =>
 simp only [hbl,hbu] at hl;have bl:=boundD_sound hlo hlo' hbl;have bu:=boundD_sound hhi hhi' hbu;have bl':(lv=none∧l.getD 0=0)∨∃ k,lv=some (.int k (l.getD 0)):=by
  rcases bl with ⟨rfl,rfl⟩|⟨k,n,rfl,rfl⟩
  · exact .inl ⟨rfl,rfl⟩
  · exact .inr ⟨k,rfl⟩
 have bu':∀ n:Nat,(hv'=none∧u.getD (n:Int)=n)∨∃ k,hv'=some (.int k (u.getD (n:Int))):=by
  intro n;rcases bu with ⟨rfl,rfl⟩|⟨k,n,rfl,rfl⟩
  · exact .inl ⟨rfl,rfl⟩
  · exact .inr ⟨k,rfl⟩
 cases ht:tk P t with
 | str =>
  simp only [ht] at hl;have hu:=tk_str ht
  cases a with
  | t x =>
    cases x with
    | str s =>
     simp only at hl;split at hl
     · rename_i hc
       obtain ⟨h0,h1,h2⟩:=hc;simp only [Option.some.injEq] at hl;subst hl
       cases hv with
       | t hx =>
       cases hx;have hb:=run_bounds (P:=P) (isS:=false) (len:=s.size) (cap:=s.size) (w:=w) (Int.le_refl _) bl' (bu' s.size) h0 h1 h2;refine ⟨.string (s.extract (l.getD 0).toNat (u.getD s.size).toNat),?_,.t (.str _)⟩;simp [Instr.sliceAt,Instr.slice,run_underlying hu,hb]
     · cases hl
    | _=>simp at hl
  | _=>simp at hl
 | slice e =>
  simp only [ht] at hl;have hu:=tk_slice ht
  cases a with
  | t x =>
    cases x with
    | nilSlice =>
     simp only at hl
     cases hs:sz P e with
     | none=>simp [hs] at hl
     | some s =>
     simp only [hs] at hl;split at hl
     · rename_i hc
       obtain ⟨h0,h1⟩:=hc;simp only [Option.some.injEq] at hl;subst hl
       cases hv with
       | t hx =>
       cases hx;have hb:=run_bounds (P:=P) (isS:=true) (len:=0) (cap:=0) (w:=w) (Int.le_refl _) bl' (bu' 0) (by omega) (by simp only [Int.natCast_zero] at *; omega) (by simp only [Int.natCast_zero] at *; omega)
       simp only [Int.natCast_zero,h0,h1,Int.toNat_zero] at hb;exact ⟨.slice none 0 0,by simp [Instr.sliceAt,Instr.slice,run_underlying hu,hb,run_sz hs],.t .nilSlice⟩
     · cases hl
    | slice es =>
     simp only at hl
     cases hs:sz P e with
     | none=>simp [hs] at hl
     | some s =>
     simp only [hs] at hl;split at hl
     · rename_i hc
       obtain ⟨h0,h1,h2,h3⟩:=hc;simp only [Option.some.injEq] at hl;subst hl
       cases hv with
       | t hx =>
       cases hx with
       | @slice _ ad len cap s' us hln hlc hss hcell hh =>
       subst hln;have hb:=run_bounds (P:=P) (isS:=true) (len:=es.length) (cap:=cap) (w:=w) (by omega) bl' (bu' es.length) h0 h1 (by omega)
       refine ⟨.slice (some (if cap=(l.getD 0).toNat then ad else ad.add ((l.getD 0).toNat*s))) ((u.getD es.length).toNat-(l.getD 0).toNat) (cap-(l.getD 0).toNat),?_,.t ?_⟩
       · simp [Instr.sliceAt,Instr.slice,run_underlying hu,hb,run_sz hs]
         split<;>simp
       · have hget:∀ i e,((es.drop (l.getD 0).toNat).take ((u.getD es.length).toNat-(l.getD 0).toNat))[i]?=some e→es[(l.getD 0).toNat+i]?=some e∧((l.getD 0).toNat=0∨s'=s)∧cap≠(l.getD 0).toNat:=by
           intro i e he;rw [List.getElem?_take] at he;split at he
           · rename_i hi
             rw [List.getElem?_drop] at he;refine ⟨he,?_,by omega⟩
             rcases h3 with h3|h3
             · exact .inl (by omega)
             · refine .inr ?_
               have:=all_get (p:=fun y:T=>y.cells.length == s) (l:=es) h3 he
               rw [beq_iff_eq,hss _ _ he] at this;exact this
           · cases he
         refine .slice (s:=s') (us:=fun i j=>us ((l.getD 0).toNat+i) j) (by simp only [List.length_take,List.length_drop]; omega) (by omega) (fun i e he=>hss _ e (hget i e he).1) (fun i j e c he hcc=>?_) (fun i j e c he hcc=>hh _ j e c (hget i e he).1 hcc)
         obtain ⟨he1,he2,he3⟩:=hget i e he;obtain ⟨q1,q2,q3⟩:=hcell _ j e c he1 hcc;rw [if_neg he3];refine ⟨by rw [add_block]; exact q1,?_,q3⟩
         rw [Addr.add_add,←q2];rcases he2 with he2|he2
         · rw [he2]; simp
         · rw [he2]
           congr 2;rw [Nat.add_mul];omega
     · cases hl
    | _=>simp at hl
  | row id i len top =>
    simp only at hl
    cases he:h.els id top with
    | none=>simp [he] at hl
    | some y =>
     obtain ⟨bt,s,es⟩:=y;simp only [he] at hl;split at hl
     · rename_i hc
       obtain ⟨hs,h0,h1,h2⟩:=hc;simp only [Option.some.injEq] at hl;subst hl;obtain ⟨x,hx,htop,hxs,hor,hob,hlen⟩:=els_at hr he;clear hor hob hr
       cases hv with
       | row hone hp =>
       obtain ⟨_,hp'⟩:=hp x hx;obtain ⟨hit,ad,cap,rfl,hlc,hcx,had⟩:=hp' htop;clear hp hp';have hb:=run_bounds (P:=P) (isS:=true) (len:=len) (cap:=cap) (w:=w) (by omega) bl' (bu' len) h0 h1 (by omega)
       refine ⟨.slice (some (if cap=(l.getD 0).toNat then ad else ad.add ((l.getD 0).toNat*s))) ((u.getD len).toNat-(l.getD 0).toNat) (cap-(l.getD 0).toNat),?_,.row rfl fun x' hx'=>?_⟩
       · simp [Instr.sliceAt,Instr.slice,run_underlying hu,hb,run_sz hs.symm]
         split<;>simp
       · rw [hx] at hx'
         obtain rfl:=Option.some.inj hx';refine ⟨by omega,fun _=>⟨by omega,_,_,rfl,by omega,by omega,fun hp0=>?_⟩⟩
         rw [if_neg (by omega),had (by omega),lit_add,hxs,Nat.add_mul]
     · cases hl
  | _=>simp at hl
 | array n e =>
  simp only [ht] at hl;have hu:=tk_array ht
  cases a with
  | ptr id i0 f0 top =>
    cases i0 with
    | succ i0=>simp at hl
    | zero =>
    cases f0 with
    | succ f0=>simp at hl
    | zero =>
    simp only at hl
    cases he:h.els id top with
    | none=>simp [he] at hl
    | some y =>
     obtain ⟨bt,s,es⟩:=y;simp only [he] at hl;split at hl
     · rename_i hc
       obtain ⟨hs,htn,h0,h1,h2⟩:=hc;simp only [Option.some.injEq] at hl;subst hl;obtain ⟨x,hx,htop,hxs,rfl,hor,_,hlen⟩:=ptr_at hr hv he;have hb:=run_bounds (P:=P) (isS:=false) (len:=n) (cap:=n) (w:=w) (Int.le_refl _) bl' (bu' n) h0 h1 h2;refine ⟨.slice (some (if n=(l.getD 0).toNat then ⟨x.blk,0*s+0,none⟩ else (⟨x.blk,0*s+0,none⟩:Addr).add ((l.getD 0).toNat*s))) ((u.getD n).toNat-(l.getD 0).toNat) (n-(l.getD 0).toNat),?_,.row rfl fun x' hx'=>?_⟩
       · simp [Instr.sliceAt,run_underlying hu,hb,run_sz hs.symm,Instr.sureAddr]
       · rw [hx] at hx'
         obtain rfl:=Option.some.inj hx';have hcap:x.top≤x.cap:=hor.2.2.2.1;refine ⟨by omega,fun _=>⟨by omega,_,_,rfl,by omega,by omega,fun hp0=>?_⟩⟩
         rw [if_neg (by omega),lit_add,hxs]
         simp
     · cases hl
  | _=>simp at hl
 | _=>simp [ht] at hl
end
end Vai

namespace Vai
open Go
open Go.RowKit (Below)
variable [Gl]
section
variable {P:Program}
def CV (m:M)(w:World)(cs:List D)(vs:Array Value):Prop:=cs.length=vs.size∧∀ (i:Nat) (c:D) (v:Value),cs[i]?=some c→vs[i]?=some v→VR m w c v∧v.oneCell'=true
theorem part_val {w:World}{m:M}{t:TypeId}{cs:List D}{vs:Array Value}{off:Nat}{d:D}(hc:CV m w cs vs)(h:partD P t cs off=some d):∃ v,(part t vs off).run P w = .ok v w∧VR m w d v:=by
 unfold partD at h;have hform:(tk P t).form=0∨(tk P t).form=1∨(tk P t).form=2:=by cases tk P t<;>simp [TK.form]
 rcases hform with hf|hf|hf
 · simp [hf] at h
 · simp only [hf] at h
   have hagg:(tk P t).isAgg=true:=by rw [isAgg_form,hf]; rfl
   cases hs:sz P t with
   | none=>simp [hs] at h
   | some n =>
    simp only [hs] at h;split at h
    · rename_i hle
      simp only [Option.some.injEq] at h;subst h;have hsz:=hc.1;refine ⟨.agg (vs.extract off (off+n)),by simp [part,run_isAgg_tk (P:=P) (t:=t) (by rw [hf]; decide),hagg,run_sz hs],VR.mkAgg (by simp; omega) (fun i v hv=>?_) fun i c v hcc hv=>?_⟩
      · simp only [Array.getElem?_extract] at hv
        split at hv
        · have hi:off+i<cs.length:=by rw [hsz]; exact (Array.getElem?_eq_some_iff.1 hv).1
          exact (hc.2 _ _ v (List.getElem?_eq_getElem hi) hv).2
        · cases hv
      · simp only [Array.getElem?_extract] at hv
        split at hv
        · rw [List.getElem?_take] at hcc
          split at hcc
          · rw [List.getElem?_drop] at hcc
            exact (hc.2 _ c v hcc hv).1
          · cases hcc
        · cases hv
    · cases h
 · simp only [hf] at h
   have hagg:(tk P t).isAgg=false:=by rw [isAgg_form,hf]; rfl
   have hi:off<vs.size:=by rw [←hc.1]; exact (List.getElem?_eq_some_iff.1 h).1
   have hv:vs[off]?=some vs[off]:=by simp [hi]
   exact ⟨vs[off],by simp [part,run_isAgg_tk (P:=P) (t:=t) (by rw [hf]; decide),hagg,hi],(hc.2 off d _ h hv).1⟩
theorem str_eq (a b:ByteArray):(a.toList == b.toList)=decide (a=b):=by
 by_cases h:a=b
 · subst h; simp
 · have:¬ a.data=b.data:=fun e=>h (by cases a; cases b; simp_all)
   rw [ByteArray.toList_eq,ByteArray.toList_eq];simp [h,this]
theorem eqCells_len:∀ {L:List Lf} {xs ys:List T} {r:Bool},eqCells L xs ys=some r→xs.length=L.length∧ys.length=L.length
 | [],[],[],_,_=>⟨rfl,rfl⟩
 | [],[],_::_,_,h=>by simp [eqCells] at h
 | [],_::_,_,_,h=>by simp [eqCells] at h
 | _::_,[],_,_,h=>by simp [eqCells] at h
 | _::_,_::_,[],_,h=>by simp [eqCells] at h
 | l::ls,x::xs,y::ys,r,h=>by
  simp only [eqCells] at h;split at h
  · rename_i a b h1 h2
    obtain ⟨h3,h4⟩:=eqCells_len h2;exact ⟨by simp [h3],by simp [h4]⟩
  · cases h
theorem eqCells_append:∀ {L M:List Lf} {xs ys:List T} {r:Bool},eqCells (L++M) xs ys=some r→∃ a b,eqCells L (xs.take L.length) (ys.take L.length)=some a∧eqCells M (xs.drop L.length) (ys.drop L.length)=some b∧r=(a&&b)
 | [],M,xs,ys,r,h=>⟨true,r,by simp [eqCells],by simpa using h,by simp⟩
 | l::L,M,xs,ys,r,h=>by
  cases xs with
  | nil=>simp [eqCells] at h
  | cons x xs =>
   cases ys with
   | nil=>simp [eqCells] at h
   | cons y ys =>
    simp only [List.cons_append,eqCells] at h;split at h
    · rename_i a b h1 h2
      obtain ⟨a',b',h3,h4,h5⟩:=eqCells_append h2;simp only [Option.some.injEq] at h;refine ⟨a&&a',b',?_,by simpa using h4,?_⟩
      · simp [eqCells,h1,h3]
      · rw [←h,h5,Bool.and_assoc]
    · cases h
def asD (P:Program)(t:TypeId)(xs:List T):Option D:=if (tk P t).isAgg then some (.t (.agg xs)) else match xs with | [x]=>some (.t x)|_=>none
theorem leaf_form {n:Nat}{t:TypeId}{L:List Lf}(h:leavesOf P n t=some L):(tk P t).form≠0∧((tk P t).isAgg=false→L.length=1):=by
 cases n with
 | zero=>simp [leavesOf] at h
 | succ n =>
  simp only [leavesOf] at h;simp only [tk_eq];unfold tk0;split at h
  · rename_i hu; rw [hu]; cases h; exact ⟨by decide,fun _=>rfl⟩
  · rename_i hu; rw [hu]; cases h; exact ⟨by simp [TK.of,TK.form],fun _=>rfl⟩
  · rename_i hu; rw [hu]; cases h; exact ⟨by decide,fun _=>rfl⟩
  · rename_i hu; rw [hu]; exact ⟨by simp [TK.of,TK.form],fun h=>by simp [TK.of,TK.isAgg] at h⟩
  · cases h
theorem mkAgg_ts (ts:List T):mkAgg (ts.map .t) = .t (.agg ts):=by
 have:allM D.toT (ts.map .t)=some ts:=by
  induction ts with
  | nil=>rfl
  | cons x xs ih=>simp only [List.map_cons,allM,ih,D.toT]
 simp only [mkAgg,this]
theorem partD_asD {n:Nat}{t:TypeId}{L:List Lf}{xs:List T}{off:Nat}(h:leavesOf P n t=some L)(hsz:sz P t=some L.length)(hle:off+L.length≤xs.length)(h0:0<L.length) :
  ∃ d,partD P t (xs.map .t) off=some d∧asD P t ((xs.drop off).take L.length)=some d:=by
 obtain ⟨hf,h1⟩:=leaf_form h
 cases hagg:(tk P t).isAgg with
 | true =>
  have hform:(tk P t).form=1:=by rw [isAgg_form] at hagg; simpa using hagg
  refine ⟨.t (.agg ((xs.drop off).take L.length)),?_,by simp [asD,hagg]⟩
  simp only [partD,hform,hsz,List.length_map];rw [if_pos hle,←List.map_drop,←List.map_take,mkAgg_ts]
 | false =>
  have hl:=h1 hagg;have hform:(tk P t).form=2:=by
   have:=isAgg_form (k:=tk P t);have h3:(tk P t).form=0∨(tk P t).form=1∨(tk P t).form=2:=by cases tk P t<;>simp [TK.form]
   rcases h3 with h3|h3|h3
   · exact absurd h3 hf
   · rw [hagg,h3] at this; cases this
   · exact h3
  have hi:off<xs.length:=by omega
  have e:(xs.drop off).take L.length=[xs[off]]:=by
   rw [hl,List.drop_eq_getElem_cons hi,List.take_succ_cons,List.take_zero]
  refine ⟨.t xs[off],?_,by simp [asD,hagg,e]⟩
  simp only [partD,hform];simp [hi]
def LeafOK (P:Program)(m:M)(w:World)(n k:Nat):Prop:=∀ (t:TypeId) (L:List Lf),leavesOf P n t=some L→∀ (xs ys:List T) (r:Bool) (d e:D) (u v:Value),eqCells L xs ys=some r→asD P t xs=some d→asD P t ys=some e→VR m w d u→VR m w e v→(Op.equalIn (n+k) t u v).run P w = .ok r w
theorem fields_eq {m:M}{w:World}{n k:Nat}(ih:LeafOK P m w n k):∀ (fs:List Field) (off:Nat) (L:List Lf),leavesF P (leavesOf P n) off fs=some L→∀ (xs ys:List T) (us vs:Array Value) (r:Bool),CV m w (xs.map .t) us→CV m w (ys.map .t) vs→eqCells L (xs.drop off) (ys.drop off)=some r→(Op.eqFields (n+k) us vs fs).run P w = .ok r w
 | [],off,L,hL,xs,ys,us,vs,r,hx,hy,he=>by
  simp only [leavesF,Option.some.injEq] at hL;subst hL;cases hxs:xs.drop off<;>cases hys:ys.drop off<;>simp [hxs,hys,eqCells] at he
  subst he;rfl
 | f::fs,off,L,hL,xs,ys,us,vs,r,hx,hy,he=>by
  simp only [leavesF] at hL;split at hL
  · rename_i hf
    split at hL
    · rename_i l hl
      split at hL
      · rename_i hsz
        split at hL
        · rename_i r' hr'
          simp only [Option.some.injEq] at hL;subst hL;obtain ⟨lx,ly⟩:=eqCells_len he;obtain ⟨a,b,e1,e2,rfl⟩:=eqCells_append he;simp only [List.length_drop,List.length_append] at lx ly;obtain ⟨d,p1,a1⟩:=partD_asD (xs:=xs) (off:=off) hl hsz.1 (by omega) hsz.2
          obtain ⟨e,p2,a2⟩:=partD_asD (xs:=ys) (off:=off) hl hsz.1 (by omega) hsz.2
          obtain ⟨u,hu1,hu2⟩:=part_val hx p1;obtain ⟨v,hv1,hv2⟩:=part_val hy p2;have h1:=ih f.type l hl _ _ a d e u v e1 a1 a2 hu2 hv2;have h2:=fields_eq ih fs (off+l.length) r' hr' xs ys us vs b hx hy (by rwa [List.drop_drop,List.drop_drop] at e2)
          rw [←hf.1] at hu1 hv1;simp only [Op.eqFields,if_pos hf.2,Sem.run_bind,hu1,hv1,Result.andThen_ok,h1]
          cases a with
          | false=>simp
          | true=>simpa using h2
        · cases hL
      · cases hL
    · cases hL
  · cases hL
theorem eqCell_bool {x y:T}{r:Bool}(h:eqCell .bool x y=some r):∃ a b,x = .bool a∧y = .bool b∧r=(a == b):=by
 cases x<;>cases y<;>simp [eqCell] at h
 exact ⟨_,_,rfl,rfl,h.symm⟩
theorem eqCell_int {x y:T}{r:Bool}(h:eqCell .int x y=some r):∃ k a b,x = .int k a∧y = .int k b∧r=(a == b):=by
 cases x<;>cases y<;>simp [eqCell] at h
 obtain ⟨rfl,h⟩:=h;exact ⟨_,_,_,rfl,rfl,by rw [←h]; simp [eqI,BEq.beq]⟩
theorem eqCell_str {x y:T}{r:Bool}(h:eqCell .str x y=some r):∃ a b,x = .str a∧y = .str b∧r=decide (a=b):=by
 cases x<;>cases y<;>simp [eqCell] at h
 exact ⟨_,_,rfl,rfl,h.symm⟩
theorem leaf_sound {m:M}{w:World}:∀ (n k:Nat),LeafOK P m w n k
 | 0,k=>fun t L h=>by simp [leavesOf] at h
 | n+1,k=>fun t L h xs ys r d e u v he hd hee hu hv=>by
  simp only [leavesOf] at h;have ek:n+1+k=(n+k)+1:=by omega
  rw [ek]
  -- one cell
  have single:∀ l,L=[l]→(tk P t).isAgg=false→∃ x y,eqCell l x y=some r∧VR m w (.t x) u∧VR m w (.t y) v:=by
    rintro l rfl hagg
    cases xs with
    | nil=>simp [eqCells] at he
    | cons x xs =>
      cases ys with
      | nil=>simp [eqCells] at he
      | cons y ys =>
       cases xs with
       | cons=>obtain ⟨h1,h2⟩:=eqCells_len he; simp at h1
       | nil =>
        cases ys with
        | cons=>obtain ⟨h1,h2⟩:=eqCells_len he; simp at h2
        | nil =>
         simp only [asD,hagg,Bool.false_eq_true,if_false,Option.some.injEq] at hd hee;subst hd hee;refine ⟨x,y,?_,hu,hv⟩;simp only [eqCells] at he
         cases h1:eqCell l x y with
         | none=>simp [h1] at he
         | some a=>simpa [h1] using he
  split at h
  · rename_i hun
    cases h;obtain ⟨x,y,hc,hx,hy⟩:=single _ rfl (by simp [tk_eq,tk0,hun,TK.of,TK.isAgg])
    obtain ⟨a,b,rfl,rfl,rfl⟩:=eqCell_bool hc
    cases hx with
    | t hx =>
    cases hx
    cases hy with
    | t hy =>
    cases hy;exact run_equalIn_bool' w (n+k) t a b hun
  · rename_i ik hun
    cases h;obtain ⟨x,y,hc,hx,hy⟩:=single _ rfl (by simp [tk_eq,tk0,hun,TK.of,TK.isAgg])
    obtain ⟨kk,a,b,rfl,rfl,rfl⟩:=eqCell_int hc
    cases hx with
    | t hx =>
    cases hx
    cases hy with
    | t hy =>
    cases hy;exact run_equalIn_int w (n+k) t kk ik a b hun
  · rename_i hun
    cases h;obtain ⟨x,y,hc,hx,hy⟩:=single _ rfl (by simp [tk_eq,tk0,hun,TK.of,TK.isAgg])
    obtain ⟨a,b,rfl,rfl,rfl⟩:=eqCell_str hc
    cases hx with
    | t hx =>
    cases hx
    cases hy with
    | t hy =>
    cases hy;rw [run_equalIn_string w (n+k) t a b hun,str_eq]
  · rename_i fs hun
    split at h
    · cases h
    · rename_i hst
      have hagg:(tk P t).isAgg=true:=by simp [tk_eq,tk0,hun,TK.of,TK.isAgg]
      have hfs:P.fieldsOf t=fs:=by simp [Program.fieldsOf,hun]
      simp only [asD,hagg,if_true,Option.some.injEq] at hd hee;subst hd hee;have cv:∀ (xs:List T) (u:Value),VR m w (.t (.agg xs)) u→∃ us,u = .agg us∧CV m w (xs.map .t) us:=by
       intro xs u hu
       cases hu with
       | t hx =>
       cases hx with
       | agg hl h1 hh =>
       refine ⟨_,rfl,by simpa using hl,fun i c v hc hv=>?_⟩
       simp only [List.getElem?_map,Option.map_eq_some_iff] at hc;obtain ⟨y,hy,rfl⟩:=hc;exact ⟨.t (hh i y v hy hv),h1 i v hv⟩
      obtain ⟨us,rfl,cu⟩:=cv xs u hu;obtain ⟨vs,rfl,cw⟩:=cv ys v hv;rw [run_equalIn_agg w (n+k) t us vs (by rw [hfs]; exact hun) (by simpa using hst),hfs]
      exact fields_eq (leaf_sound n k) fs.toList 0 L h xs ys us vs r cu cw (by simpa using he)
  · cases h
end
end Vai

namespace Vai
open Go
open Go.RowKit (Below)
variable [Gl]
section
variable {P:Program}
theorem less_total:∀ (x y:List UInt8),(Op.bytesLess x y||x == y) = !Op.bytesLess y x
 | [],[]=>rfl
 | [],_::_=>rfl
 | _::_,[]=>rfl
 | a::x,b::y=>by
  have ih:=less_total x y;simp only [Op.bytesLess];rcases Nat.lt_trichotomy a.toNat b.toNat with h|h|h
  · have h0:a<b:=UInt8.lt_iff_toNat_lt.2 h
    have h1:¬ b<a:=fun e=>absurd (UInt8.lt_iff_toNat_lt.1 e) (by omega)
    have h2:(b == a)=false:=by simp; exact fun e=>by subst e; omega
    simp [h0,h1,h2]
  · have h0:a=b:=UInt8.toNat_inj.1 h
    subst h0;have h1:¬ a<a:=UInt8.lt_irrefl _;simp only [h1,decide_false,Bool.false_or,beq_self_eq_true,Bool.true_and];rw [←ih];simp
  · have h0:b<a:=UInt8.lt_iff_toNat_lt.2 h
    have h1:¬ a<b:=fun e=>absurd (UInt8.lt_iff_toNat_lt.1 e) (by omega)
    have h2:¬ a=b:=fun e=>by subst e; omega
    simp [h0,h1,h2]
theorem binInt_sound {w:World}{S:Nat→Prop}{op:BinOp}{k k':IntKind}{a b:Int}{r:T}(h:binInt op k a k' b=some r)(t:TypeId)(x y:Operand) :
  ∃ v,(do eqGuard op t x y (.int k a) (.int k' b); binOp op t (.int k a) (.int k' b)).run P w = .ok v w∧TR w S r v:=by
 have hg:(eqGuard op t x y (.int k a) (.int k' b)).run P w = .ok () w:=by cases op<;>rfl
 rw [Sem.run_bind,hg,Result.andThen_ok];unfold binInt at h;cases op<;>simp only at h
 case shl =>
  split at h
  · cases h
  · rename_i hb
    simp only [Option.some.injEq] at h;subst h;exact ⟨_,by simp [binOp,Op.shift,hb],.int _ _⟩
 case shr =>
  split at h
  · cases h
  · rename_i hb
    simp only [Option.some.injEq] at h;subst h;exact ⟨_,by simp [binOp,Op.shift,hb],.int _ _⟩
 all_goals
  split at h
  case isFalse=>cases h
 all_goals
  rename_i hk;subst hk
 all_goals try (simp only [Option.some.injEq] at h; subst h)
 case add=>exact ⟨_,by simp [binOp,Op.intArith],.int _ _⟩
 case sub=>exact ⟨_,by simp [binOp,Op.intArith],.int _ _⟩
 case mul=>exact ⟨_,by simp [binOp,Op.intArith],.int _ _⟩
 case quo =>
  split at h
  · cases h
  · rename_i hb
    simp only [Option.some.injEq] at h;subst h;exact ⟨_,by simp [binOp,Op.intDiv,hb],.int _ _⟩
 case rem =>
  split at h
  · cases h
  · rename_i hb
    simp only [Option.some.injEq] at h;subst h;exact ⟨_,by simp [binOp,Op.intDiv,hb],.int _ _⟩
 case and =>
  simp only [intBitsT,Option.map_some,Option.some.injEq] at h;subst h;exact ⟨_,by simp only [binOp,Op.intBits,ne_eq,not_true_eq_false,if_false]; rfl,.int _ _⟩
 case or =>
  simp only [intBitsT,Option.map_some,Option.some.injEq] at h;subst h;exact ⟨_,by simp only [binOp,Op.intBits,ne_eq,not_true_eq_false,if_false]; rfl,.int _ _⟩
 case xor =>
  simp only [intBitsT,Option.map_some,Option.some.injEq] at h;subst h;exact ⟨_,by simp only [binOp,Op.intBits,ne_eq,not_true_eq_false,if_false]; rfl,.int _ _⟩
 case andNot =>
  simp only [intBitsT,Option.map_some,Option.some.injEq] at h;subst h;exact ⟨_,by simp only [binOp,Op.intBits,ne_eq,not_true_eq_false,if_false]; rfl,.int _ _⟩
 all_goals first
  | exact ⟨_,by simp only [binOp,Op.intCmp,ne_eq,not_true_eq_false,if_false]; rfl,.bool _⟩
theorem binStr_sound {w:World}{S:Nat→Prop}{op:BinOp}{a b:ByteArray}{r:T}(h:binStr op a b=some r)(t:TypeId)(x y:Operand) :
  ∃ v,(do eqGuard op t x y (.string a) (.string b); binOp op t (.string a) (.string b)).run P w = .ok v w∧TR w S r v:=by
 have hg:(eqGuard op t x y (.string a) (.string b)).run P w = .ok () w:=by cases op<;>rfl
 rw [Sem.run_bind,hg,Result.andThen_ok];unfold binStr at h;have ht:=less_total a.toList b.toList;cases op<;>simp only at h
 case add =>
  split at h
  · rename_i hl
    simp only [Option.some.injEq] at h;subst h;have hl':¬ (((a.size+b.size:Nat):Int)>IntKind.i64.max):=by
     have:IntKind.i64.max=9223372036854775807:=by decide
     rw [this]; omega
    exact ⟨.string (a++b),by simp only [binOp,Op.stringOp]; rw [if_neg hl']; rfl,.str _⟩
  · cases h
 all_goals first
  | (simp only [Option.some.injEq] at h; subst h)
  | cases h
 case eql=>exact ⟨_,by simp only [binOp,Op.stringOp,str_eq]; rfl,.bool _⟩
 case neq=>exact ⟨_,by simp only [binOp,Op.stringOp,str_eq]; rfl,.bool _⟩
 case lss=>exact ⟨_,by simp only [binOp,Op.stringOp]; rfl,.bool _⟩
 case leq=>exact ⟨_,by simp only [binOp,Op.stringOp,ht]; rfl,.bool _⟩
 case gtr=>exact ⟨.bool (!(Op.bytesLess a.toList b.toList||a.toList == b.toList)),by simp only [binOp,Op.stringOp]; rfl,by rw [ht]; simpa using TR.bool _⟩
 case geq=>exact ⟨_,by simp only [binOp,Op.stringOp]; rfl,.bool _⟩
theorem equal_step (t:TypeId)(x y:Value):∃ n,Op.equal t x y=Op.equalIn (n+1) t x y:=⟨9999,rfl⟩
theorem nilD_run {w:World}{m:M}{h:H}{t:TypeId}{a:D}{v:Value}{r:Bool}(hr:HR m w h)(hv:VR m w a v)(hn:nilD (tk P t) a=some r)
  (hval:∀ id i len top,a = .row id i len top→(h.els id top).isSome=true) (hval':∀ id i f top,a = .ptr id i f top→(h.els id top).isSome=true) :
  (∃ e,tk P t = .slice e∧(Op.equal t v (.slice none 0 0)).run P w = .ok r w)∨(tk P t = .func∧(Op.equal t v .nilFunc).run P w = .ok r w) ∨
   (∃ e,tk P t = .ptr e∧(Op.equal t v (.pointer none)).run P w = .ok r w)∨(∃ k e,tk P t = .map k e∧(Op.equal t v (.map none)).run P w = .ok r w):=by
 cases a with
 | t x =>
  cases hv with
  | t hx =>
  cases x<;>simp only [nilD] at hn
  case nilSlice =>
   cases hk:tk P t<;>simp only [hk] at hn<;>cases hn
   cases hx;exact .inl ⟨_,rfl,by obtain ⟨n,hn⟩:=equal_step t _ _; rw [hn]; simp [Op.equalIn,run_underlying (tk_slice hk)]⟩
  case slice es =>
   cases hk:tk P t<;>simp only [hk] at hn<;>cases hn
   cases hx;exact .inl ⟨_,rfl,by obtain ⟨n,hn⟩:=equal_step t _ _; rw [hn]; simp [Op.equalIn,run_underlying (tk_slice hk)]⟩
  case nilFunc =>
   cases hk:tk P t<;>simp only [hk] at hn<;>cases hn
   cases hx;obtain ⟨p,q,s,hu⟩:=tk_func hk;exact .inr (.inl ⟨rfl,by obtain ⟨n,hn⟩:=equal_step t _ _; rw [hn]; simp [Op.equalIn,run_underlying hu]⟩)
  case nilPtr =>
   cases hk:tk P t<;>simp only [hk] at hn<;>cases hn
   cases hx;exact .inr (.inr (.inl ⟨_,rfl,by obtain ⟨n,hn⟩:=equal_step t _ _; rw [hn]; simp [Op.equalIn,run_underlying (tk_ptr hk)]⟩))
  case nilMap =>
   cases hk:tk P t<;>simp only [hk] at hn<;>cases hn
   cases hx;exact .inr (.inr (.inr ⟨_,_,rfl,by obtain ⟨n,hn⟩:=equal_step t _ _; rw [hn]; simp [Op.equalIn,run_underlying (tk_map hk)]⟩))
  all_goals cases hn
 | row id i len top =>
  simp only [nilD] at hn;cases hk:tk P t<;>simp only [hk] at hn<;>cases hn
  obtain ⟨y,hy⟩:=Option.isSome_iff_exists.1 (hval id i len top rfl);obtain ⟨bt,s,es⟩:=y;obtain ⟨x,hx,htop,_⟩:=els_at hr hy
  cases hv with
  | row h1 hp =>
  obtain ⟨_,ad,cap,rfl,_⟩:=(hp x hx).2 htop;exact .inl ⟨_,rfl,by obtain ⟨n,hn⟩:=equal_step t _ _; rw [hn]; simp [Op.equalIn,run_underlying (tk_slice hk)]⟩
 | ptr id i f top =>
  simp only [nilD] at hn;cases hk:tk P t<;>simp only [hk] at hn<;>cases hn
  obtain ⟨y,hy⟩:=Option.isSome_iff_exists.1 (hval' id i f top rfl);obtain ⟨bt,s,es⟩:=y;obtain ⟨x,hx,htop,_,rfl,_⟩:=ptr_at hr hv hy;exact .inr (.inr (.inl ⟨_,rfl,by obtain ⟨n,hn⟩:=equal_step t _ _; rw [hn]; simp [Op.equalIn,run_underlying (tk_ptr hk)]⟩))
 | eptr y f =>
  simp only [nilD] at hn;cases hk:tk P t<;>simp only [hk] at hn<;>cases hn
  cases hv with
  | eptr=>exact .inr (.inr (.inl ⟨_,rfl,by obtain ⟨n,hn⟩:=equal_step t _ _; rw [hn]; simp [Op.equalIn,run_underlying (tk_ptr hk)]⟩))
 | func fn fs cs =>
  simp only [nilD] at hn;cases hk:tk P t<;>simp only [hk] at hn<;>cases hn
  cases hv with
  | func =>
  obtain ⟨p,q,s,hu⟩:=tk_func hk;exact .inr (.inl ⟨rfl,by obtain ⟨n,hn⟩:=equal_step t _ _; rw [hn]; simp [Op.equalIn,run_underlying hu]⟩)
 | _=>simp [nilD] at hn
theorem guard_run {u v:Value}{t:TypeId}{op:BinOp}{x y:Operand}{w:World}(h1:v ≠ .nilIface)(h2:∀ cs,v ≠ .agg cs):(eqGuard op t x y u v).run P w = .ok () w:=by
 unfold eqGuard;cases op<;>first
  | rfl
  | (cases u<;>cases v<;>first|rfl|exact absurd rfl h1|exact absurd rfl (h2 _))
theorem eql_run {u v:Value}{t:TypeId}{r:Bool}{w:World}(h:(Op.equal t u v).run P w = .ok r w)(h1:∀ k n,v ≠ .int k n)(h2:∀ s,v ≠ .string s)(h3:∀ k b,v ≠ .float k b)(h4:∀ k b c,v ≠ .complex k b c) :
  (binOp .eql t u v).run P w = .ok (.bool r) w∧(binOp .neq t u v).run P w = .ok (.bool !r) w:=by
 have e1:binOp .eql t u v=(do pure (.bool (←Op.equal t u v))):=by
  cases v<;>first|exact absurd rfl (h1 _ _)|exact absurd rfl (h2 _)|exact absurd rfl (h3 _ _)|exact absurd rfl (h4 _ _ _)|(cases u<;>rfl)
 have e2:binOp .neq t u v=(do pure (.bool (!(←Op.equal t u v)))):=by
  cases v<;>first|exact absurd rfl (h1 _ _)|exact absurd rfl (h2 _)|exact absurd rfl (h3 _ _)|exact absurd rfl (h4 _ _ _)|(cases u<;>rfl)
 rw [e1,e2];simp [h]
theorem eqD_sound {w:World}{m:M}{h:H}{t:TypeId}{a b:D}{u v:Value}{r:Bool}(hr:HR m w h)(hu:VR m w a u)(hv:VR m w b v)(he:eqD P h t a b=some r)(op:BinOp)(x y:Operand) :
   (eqGuard op t x y u v).run P w = .ok () w∧(binOp .eql t u v).run P w = .ok (.bool r) w∧(binOp .neq t u v).run P w = .ok (.bool !r) w:=by
 unfold eqD at he;split at he
 · rename_i q
   cases hv with
   | t hv =>
   cases hv;split at he
   · rename_i p hk
     cases he
     cases hu with
     | t hx =>
     cases hx;refine ⟨guard_run (by simp) (by simp),eql_run ?_ (by simp) (by simp) (by simp) (by simp)⟩
     obtain ⟨n,hn⟩:=equal_step t (.bool p) (.bool q);rw [hn];simp [Op.equalIn,run_underlying (tk_bool hk)]
   · cases he
 · cases hv with
   | t hv =>
   cases hv;have key:∀ (s:TypeId) (z:Value),tk P t = .iface→(eqGuard op t x y (.iface s z) .nilIface).run P w = .ok () w∧(binOp .eql t (.iface s z) .nilIface).run P w = .ok (.bool false) w∧(binOp .neq t (.iface s z) .nilIface).run P w = .ok (.bool !false) w:=by
     intro s z hk;obtain ⟨ms,hm⟩:=tk_iface hk;refine ⟨by unfold eqGuard; cases op<;>rfl,eql_run ?_ (by simp) (by simp) (by simp) (by simp)⟩
     obtain ⟨n,hn⟩:=equal_step t (.iface s z) .nilIface;rw [hn];simp [Op.equalIn,run_underlying hm]
   split at he
   · rename_i hk
     cases he
     cases hu with
     | t hx=>cases hx; exact key _ _ hk
   · rename_i hk
     cases he
     cases hu with
     | iface=>exact key _ _ hk
   · cases he
 · rename_i ys
   split at he
   · rename_i xs
     split at he
     · rename_i L hL
       unfold leaves at hL;split at hL
       · rename_i hg
         have aggs:∀ (zs:List T) (z:Value),VR m w (.t (.agg zs)) z→∃ us,z = .agg us:=by
           intro zs z hz
           cases hz with
           | t hx=>cases hx; exact ⟨_,rfl⟩
         obtain ⟨us,rfl⟩:=aggs xs u hu;obtain ⟨vs,rfl⟩:=aggs ys v hv;have h1:=leaf_sound (P:=P) (m:=m) (w:=w) 8 9992 t L hL xs ys r _ _ _ _ he (by simp [asD,hg.2]) (by simp [asD,hg.2]) hu hv
         refine ⟨run_eqGuard_agg w op t x y us vs hg.1,?_,?_⟩
         · rw [run_eql_struct,show (10000:Nat)=8+9992 from rfl,h1]; rfl
         · rw [run_neq_struct,show (10000:Nat)=8+9992 from rfl,h1]; rfl
       · cases hL
     · cases he
   · cases he
 · rename_i b0 hb1 hb2 hb3
   unfold eqNil at he;split at he
   · rename_i hok
     have o1:∀ id i len top,a = .row id i len top→(h.els id top).isSome=true:=fun id i len top e=>by subst e; exact hok
     have o2:∀ id i f top,a = .ptr id i f top→(h.els id top).isSome=true:=fun id i len top e=>by subst e; exact hok
     cases hv with
     | t hv =>
     split at he
     · rename_i e hk
       cases hv;rcases nilD_run hr hu (by rw [hk]; exact he) o1 o2 with ⟨_,_,hrun⟩|⟨hk',_⟩|⟨_,hk',_⟩|⟨_,_,hk',_⟩
       · exact ⟨guard_run (by simp) (by simp),eql_run hrun (by simp) (by simp) (by simp) (by simp)⟩
       all_goals rw [hk] at hk'; cases hk'
     · rename_i hk
       cases hv;rcases nilD_run hr hu (by rw [hk]; exact he) o1 o2 with ⟨_,hk',_⟩|⟨_,hrun⟩|⟨_,hk',_⟩|⟨_,_,hk',_⟩
       · rw [hk] at hk'; cases hk'
       · exact ⟨guard_run (by simp) (by simp),eql_run hrun (by simp) (by simp) (by simp) (by simp)⟩
       all_goals rw [hk] at hk'; cases hk'
     · rename_i e hk
       cases hv;rcases nilD_run hr hu (by rw [hk]; exact he) o1 o2 with ⟨_,hk',_⟩|⟨hk',_⟩|⟨_,_,hrun⟩|⟨_,_,hk',_⟩
       · rw [hk] at hk'; cases hk'
       · rw [hk] at hk'; cases hk'
       · exact ⟨guard_run (by simp) (by simp),eql_run hrun (by simp) (by simp) (by simp) (by simp)⟩
       · rw [hk] at hk'; cases hk'
     · rename_i k e hk
       cases hv;rcases nilD_run hr hu (by rw [hk]; exact he) o1 o2 with ⟨_,hk',_⟩|⟨hk',_⟩|⟨_,hk',_⟩|⟨_,_,_,hrun⟩
       · rw [hk] at hk'; cases hk'
       · rw [hk] at hk'; cases hk'
       · rw [hk] at hk'; cases hk'
       · exact ⟨guard_run (by simp) (by simp),eql_run hrun (by simp) (by simp) (by simp) (by simp)⟩
     · cases he
   · cases he
 · cases he
theorem nilNil_sound {w:World}{m:M}{op:BinOp}{t:TypeId}{a b d:D}{u v:Value}{x y:Operand}(hu:VR m w a u)(hv:VR m w b v)(hb:nilNil P op t y a b=some d) :
   ∃ z,(do eqGuard op t x y u v; binOp op t u v).run P w = .ok z w∧VR m w d z∧d.refsB 0=true∧∀ n,d.refsB n=true:=by
 unfold nilNil at hb;split at hb
 · cases hu with
   | t hu =>
   cases hv with
   | t hv =>
   cases hu; cases hv;split at hb
   · rename_i hk
     obtain ⟨ms,hm⟩:=tk_iface hk;rename_i c;have he:(binOp .eql t .nilIface .nilIface).run P w = .ok (.bool true) w∧(binOp .neq t .nilIface .nilIface).run P w = .ok (.bool !true) w:=eql_run (by
       obtain ⟨n,hn⟩:=equal_step t .nilIface .nilIface;rw [hn];simp [Op.equalIn,run_underlying hm]) (by simp) (by simp) (by simp) (by simp)
     split at hb
     · cases hb
       refine ⟨.bool true,?_,.t (.bool _),rfl,fun _=>rfl⟩
       simp [eqGuard,he.1]
     · cases hb
       refine ⟨.bool false,?_,.t (.bool _),rfl,fun _=>rfl⟩
       simp [eqGuard,he.2]
     · cases hb
   · cases hb
 · cases hb
theorem binD_sound {w:World}{m:M}{h:H}{op:BinOp}{t:TypeId}{a b d:D}{u v:Value}(hr:HR m w h)(hu:VR m w a u)(hv:VR m w b v)(hb:binD P h op t a b=some d)(x y:Operand) :
   ∃ z,(do eqGuard op t x y u v; binOp op t u v).run P w = .ok z w∧VR m w d z:=by
 unfold binD at hb;split at hb
 · cases hu with
   | t hu =>
   cases hu
   cases hv with
   | t hv =>
   cases hv;obtain ⟨r,hr1,rfl⟩:=Option.map_eq_some_iff.1 hb;obtain ⟨z,hz,hzr⟩:=binInt_sound (P:=P) (w:=w) (S:=m.blocks) hr1 t x y;exact ⟨z,hz,.t hzr⟩
 · cases hu with
   | t hu =>
   cases hu
   cases hv with
   | t hv =>
   cases hv;obtain ⟨r,hr1,rfl⟩:=Option.map_eq_some_iff.1 hb;obtain ⟨z,hz,hzr⟩:=binStr_sound (P:=P) (w:=w) (S:=m.blocks) hr1 t x y;exact ⟨z,hz,.t hzr⟩
 · split at hb
   · obtain ⟨r,hr1,rfl⟩:=Option.map_eq_some_iff.1 hb
     obtain ⟨h1,h2,h3⟩:=eqD_sound hr hu hv hr1 .eql x y;exact ⟨.bool r,by rw [Sem.run_bind,h1]; exact h2,.t (.bool r)⟩
   · obtain ⟨r,hr1,rfl⟩:=Option.map_eq_some_iff.1 hb
     obtain ⟨h1,h2,h3⟩:=eqD_sound hr hu hv hr1 .neq x y;exact ⟨.bool !r,by rw [Sem.run_bind,h1]; exact h3,.t (.bool !r)⟩
   · cases hb
theorem unD_sound {w:World}{m:M}{op:UnOp}{a d:D}{u:Value}(hu:VR m w a u)(hb:unD op a=some d):∃ z,(Op.unary op u).run P w = .ok z w∧VR m w d z:=by
 unfold unD at hb;split at hb
 · cases hu with
   | t hu =>
   cases hu;split at hb
   · cases hb; exact ⟨_,rfl,.t (.int _ _)⟩
   · simp only [intBitsT,Option.map_some,Option.some.injEq] at hb
     subst hb;exact ⟨_,rfl,.t (.int _ _)⟩
   · cases hb
 · cases hu with
   | t hu =>
   cases hu;split at hb
   · cases hb; exact ⟨_,rfl,.t (.bool _)⟩
   · cases hb
 · cases hb
theorem getD_zero {ts:Array TypeId}{t:TypeId}(ht:ts.getD 0 0=t)(h0:ts.size≠0):ts[0]?=some t:=by
 have hlt:0<ts.size:=by omega
 rw [Array.getElem?_eq_getElem hlt];simp only [Array.getD,hlt,dif_pos] at ht;exact congrArg some ht
theorem lenD_sound {w:World}{m:M}{h:H}{t:TypeId}{a d:D}{u:Value}(hr:HR m w h)(hu:VR m w a u)(hb:lenD P h t a=some d)(ts:Array TypeId)(ht:ts.getD 0 0=t)(h0:ts.size≠0)(ty:TypeId) :
  ∃ z,(Builtin.len_ ts ty #[u]).run P w = .ok z w∧VR m w d z:=by
 have hts:ts[0]?=some t:=getD_zero ht h0
 cases a with
 | t x =>
  cases hu with
  | t hx =>
  cases x with
  | nilSlice =>
   simp only [lenD] at hb;cases hk:tk P t<;>simp only [hk] at hb<;>cases hb
   cases hx;exact ⟨_,by simp [Builtin.len_,hts,run_underlying (tk_slice hk)]; rfl,.t (.int _ _)⟩
  | slice es =>
   simp only [lenD] at hb;cases hk:tk P t<;>simp only [hk] at hb<;>cases hb
   cases hx with
   | slice hl =>
   subst hl;exact ⟨_,by simp [Builtin.len_,hts,run_underlying (tk_slice hk)]; rfl,.t (.int _ _)⟩
  | str s =>
   simp only [lenD] at hb;cases hk:tk P t<;>simp only [hk] at hb<;>cases hb
   cases hx;exact ⟨_,by simp [Builtin.len_,hts,run_underlying (tk_str hk)]; rfl,.t (.int _ _)⟩
  | nilMap =>
   simp only [lenD] at hb;cases hk:tk P t<;>simp only [hk] at hb<;>cases hb
   cases hx;exact ⟨_,by simp [Builtin.len_,hts,run_underlying (tk_map hk)]; rfl,.t (.int _ _)⟩
  | _=>simp [lenD] at hb
 | row id i len top =>
  simp only [lenD] at hb;cases hk:tk P t<;>simp only [hk] at hb<;>try (cases hb; done)
  cases he:h.els id top with
  | none=>simp [he] at hb
  | some y =>
   simp only [he,Option.some.injEq] at hb;subst hb;obtain ⟨bt,s,es⟩:=y;obtain ⟨x,hx,htop,_⟩:=els_at hr he
   cases hu with
   | row h1 hp =>
   obtain ⟨_,ad,cap,rfl,_⟩:=(hp x hx).2 htop;exact ⟨_,by simp [Builtin.len_,hts,run_underlying (tk_slice hk)]; rfl,.t (.int _ _)⟩
 | map id =>
  simp only [lenD] at hb;cases hk:tk P t<;>simp only [hk] at hb<;>try (cases hb; done)
  cases ho:h.objs id with
  | none=>simp [ho] at hb
  | some o =>
   cases o with
   | map ents clock =>
    simp only [ho,Option.some.injEq] at hb;subst hb;obtain ⟨x,hx,h1,arr,h2,h3,_⟩:=hr.obj id _ ho
    cases hu with
    | map hone hp =>
    rw [hp x hx h1];refine ⟨goInt arr.size,?_,by rw [h3]; exact .t (.int _ _)⟩
    have hg:(getObj x.blk).run P w = .ok (.map arr clock) w:=by simp [getObj,Sem.run,h2]
    simp [Builtin.len_,hts,run_underlying (tk_map hk),hg]
   | _=>simp [ho] at hb
 | _=>simp [lenD] at hb
theorem capD_sound {w:World}{m:M}{t:TypeId}{a d:D}{u:Value}(hu:VR m w a u)(hb:capD P t a=some d)(ts:Array TypeId)(ht:ts.getD 0 0=t)(h0:ts.size≠0)(ty:TypeId) :
   ∃ z,(Builtin.cap_ ts ty #[u]).run P w = .ok z w∧VR m w d z:=by
 have hts:ts[0]?=some t:=getD_zero ht h0;unfold capD at hb;split at hb
 · cases hu with
   | t hx =>
   cases hx;cases hk:tk P t<;>simp only [hk] at hb<;>cases hb
   exact ⟨_,by simp [Builtin.cap_,hts,run_underlying (tk_slice hk)]; rfl,.t (.int _ _)⟩
 · cases hb
end
end Vai

namespace Vai
open Go
open Go.RowKit (Below)
variable [Gl]
section
variable {P:Program}
theorem snapF_sound {w:World}{m:M}{h:H}(hr:HR m w h)(S:Nat→Prop)(hS:∀ k,S k→m.blocks k)(hS':∀ id x,m id=some x→¬ S x.blk):∀ (n:Nat) (d:D) (v:Value) (x:T),VR m w d v→snapF h n d=some x→TR w S x v:=by
 have tr:∀ {x:T} {v:Value},TR w m.blocks x v→TR w S x v:=fun hx=>hx.mono (fun _ _ _=>rfl) (fun k _ hk=>hS k hk)
 intro n
 induction n with
 | zero =>
  intro d v x hv hs;rw [snapF] at hs;rw [toT_some hs] at hv
  cases hv with
  | t hx=>exact tr hx
 | succ n ih =>
  intro d v x hv hs
  cases d with
  | t y =>
   simp only [snapF,Option.some.injEq] at hs;subst hs
   cases hv with
   | t hx=>exact tr hx
  | agg ds =>
   simp only [snapF,Option.map_eq_some_iff] at hs;obtain ⟨ts,hts,rfl⟩:=hs
   cases hv with
   | agg hl h1 hh =>
   refine .agg (by rw [← (allM_some hts).1]; exact hl) h1 fun i c v hc hvv=>?_
   obtain ⟨d,hd,hdc⟩:=allM_get hts hc;exact ih d v c (hh i d v hd hvv) hdc
  | row id i len top =>
   simp only [snapF] at hs
   cases he:h.els id top with
   | none=>simp [he] at hs
   | some y =>
    obtain ⟨bt,s,es⟩:=y;simp only [he] at hs;split at hs
    · rename_i hle
      obtain ⟨ts,hts,rfl⟩:=Option.map_eq_some_iff.1 hs;obtain ⟨y,hy,htop,hys,hor,hob,hlen⟩:=els_at hr he
      cases hv with
      | row hone hp =>
      obtain ⟨_,hp'⟩:=hp y hy;obtain ⟨hit,ad,cap,rfl,hlc,hcx,had⟩:=hp' htop;obtain ⟨o1,o2,o3,o4,o5,cur,hb,hcs,hds,hcells⟩:=hor;have hl:=(allM_some hts).1;simp only [List.length_take,List.length_drop] at hl;have hget:∀ (k:Nat) (c:T),ts[k]?=some c→∃ d,es[i+k]?=some d∧snapF h n d=some c∧k<len:=by
        intro k c hc;obtain ⟨d,hd,hdc⟩:=allM_get hts hc;rw [List.getElem?_take] at hd;split at hd
        · rw [List.getElem?_drop] at hd
          exact ⟨d,hd,hdc,by assumption⟩
        · cases hd
      have hcl:∀ (d:D) (c:T) (n:Nat),snapF h n d=some c→d.cells≠[]→d.cells.length=c.cells.length∧∀ (j:Nat) (e:T),c.cells[j]?=some e→∃ dd,d.cells[j]?=some dd∧snapF h n dd=some e:=by
        intro d c n hdc hne;have leaf:∀ (d:D) (c:T),d.cells=[d]→c.cells=[c]→snapF h n d=some c→d.cells.length=c.cells.length∧∀ (j:Nat) (e:T),c.cells[j]?=some e→∃ dd,d.cells[j]?=some dd∧snapF h n dd=some e:=by
          intro d c h1 h2 h3;rw [h1,h2];refine ⟨rfl,fun j e he=>?_⟩
          cases j with
          | zero=>simp at he; subst he; exact ⟨d,rfl,h3⟩
          | succ j=>simp at he
        cases d with
        | t z =>
          have hz:snapF h n (.t z)=some z:=by cases n<;>rfl
          rw [hz] at hdc;cases hdc;refine ⟨by simp [D.cells],fun j e he=>⟨.t e,by simp [D.cells,he],by cases n<;>rfl⟩⟩
        | agg ds =>
          cases n with
          | zero=>simp [snapF,D.toT] at hdc
          | succ n =>
           simp only [snapF,Option.map_eq_some_iff] at hdc;obtain ⟨us,hus,rfl⟩:=hdc;refine ⟨(allM_some hus).1,fun j e he=>?_⟩
           obtain ⟨dd,hdd,hde⟩:=allM_get hus he;exact ⟨dd,hdd,by
             have mono:∀ (n:Nat) (d:D) (c:T),snapF h n d=some c→snapF h (n+1) d=some c:=by
               intro n
               induction n with
               | zero=>intro d c hd; rw [snapF] at hd; rw [toT_some hd]; rfl
               | succ n ihn =>
                intro d c hd
                cases d with
                | t z=>exact hd
                | agg ds =>
                 rw [snapF] at hd ⊢;obtain ⟨us,hus,rfl⟩:=Option.map_eq_some_iff.1 hd;refine Option.map_eq_some_iff.2 ⟨us,?_,rfl⟩;clear hd;have lift:∀ (l:List D) (us:List T),allM (snapF h n) l=some us→allM (snapF h (n+1)) l=some us:=by
                  intro l
                  induction l with
                  | nil=>intro us hu; exact hu
                  | cons a l ihl =>
                    intro us hu;simp only [allM] at hu ⊢
                    cases ha:snapF h n a with
                    | none=>simp [ha] at hu
                    | some a' =>
                     cases hl:allM (snapF h n) l with
                     | none=>simp [ha,hl] at hu
                     | some l'=>rw [ihn _ _ ha,ihl _ hl]; simpa [ha,hl] using hu
                 exact lift _ _ hus
                | row id i len top =>
                 rw [snapF] at hd ⊢
                 cases he:h.els id top with
                 | none=>simp [he] at hd
                 | some y =>
                  obtain ⟨bt,s,es⟩:=y;simp only [he] at hd ⊢;split at hd
                  · rename_i hle
                    rw [if_pos hle];obtain ⟨us,hus,rfl⟩:=Option.map_eq_some_iff.1 hd;refine Option.map_eq_some_iff.2 ⟨us,?_,rfl⟩;have lift:∀ (l:List D) (us:List T),allM (snapF h n) l=some us→allM (snapF h (n+1)) l=some us:=by
                     intro l
                     induction l with
                     | nil=>intro us hu; exact hu
                     | cons a l ihl =>
                      intro us hu;simp only [allM] at hu ⊢
                      cases ha:snapF h n a with
                      | none=>simp [ha] at hu
                      | some a' =>
                       cases hl:allM (snapF h n) l with
                       | none=>simp [ha,hl] at hu
                       | some l'=>rw [ihn _ _ ha,ihl _ hl]; simpa [ha,hl] using hu
                    exact lift _ _ hus
                  · cases hd
                | iface t d =>
                 rw [snapF] at hd ⊢;obtain ⟨us,hus,rfl⟩:=Option.map_eq_some_iff.1 hd;exact Option.map_eq_some_iff.2 ⟨us,ihn _ _ hus,rfl⟩
                | _=>simp [snapF] at hd
             exact mono n dd e hde⟩
        | row id i len top =>
          refine leaf _ c rfl ?_ hdc
          cases n with
          | zero=>simp [snapF,D.toT] at hdc
          | succ n =>
           simp only [snapF] at hdc;split at hdc
           · split at hdc
             · obtain ⟨us,_,rfl⟩:=Option.map_eq_some_iff.1 hdc; rfl
             · cases hdc
           · cases hdc
        | iface t d =>
          refine leaf _ c rfl ?_ hdc
          cases n with
          | zero=>simp [snapF,D.toT] at hdc
          | succ n =>
           simp only [snapF] at hdc;obtain ⟨us,_,rfl⟩:=Option.map_eq_some_iff.1 hdc; rfl
        | _=>cases n<;>simp [snapF,D.toT] at hdc
      have hlen':ts.length=len:=by omega
      refine .slice (s:=s) (us:=fun k j=>cur.getD ((i+k)*s+j) undef) hlen' hlc (fun k c hc=>?_) (fun k j c e hc he=>?_) (fun k j c e hc he=>?_)
      · obtain ⟨d,hd,hdc,hk⟩:=hget k c hc
        have hdl:=hds _ d hd;rw [← (hcl d c n hdc (fun e=>by rw [e] at hdl; simp at hdl; omega)).1]
        exact hdl
      · obtain ⟨d,hd,hdc,hk⟩:=hget k c hc
        have hdl:=hds _ d hd;obtain ⟨dd,hdd,_⟩:=(hcl d c n hdc (fun e=>by rw [e] at hdl; simp at hdl; omega)).2 j e he
        obtain ⟨u,hu,hvr,hone'⟩:=hcells _ j d dd hd hdd;have hcu:cur.getD ((i+k)*s+j) undef=u:=by simp [hu]
        have ha:=had (by omega)
        subst ha;simp only [hcu];refine ⟨hS' id y hy,?_,hone'⟩;rw [lit_add,hys,cell_of_row w y.blk _ cur bt (0,0) hb,←hu,Nat.add_mul,Nat.add_assoc]
      · obtain ⟨d,hd,hdc,hk⟩:=hget k c hc
        have hdl:=hds _ d hd;obtain ⟨dd,hdd,hse⟩:=(hcl d c n hdc (fun e=>by rw [e] at hdl; simp at hdl; omega)).2 j e he
        obtain ⟨u,hu,hvr,hone⟩:=hcells _ j d dd hd hdd;have hcu:cur.getD ((i+k)*s+j) undef=u:=by simp [hu]
        simp only [hcu];exact ih dd u e hvr hse
    · cases hs
  | iface t d =>
   simp only [snapF,Option.map_eq_some_iff] at hs;obtain ⟨y,hy,rfl⟩:=hs
   cases hv with
   | iface hv=>exact .iface (ih d _ y hv hy)
  | _=>simp [snapF] at hs
theorem snap_tr {w:World}{m:M}{h:H}(hr:HR m w h){d:D}{v:Value}{x:T}(hv:VR m w d v)(hs:snap h d=some x):TR w (fun _=>False) x v :=
 snapF_sound hr (fun _=>False) (fun _ h=>h.elim) (fun _ _ _ h=>h) 5 d v x hv hs
theorem byteCells {w:World}{ad:Addr}{s:Nat}{us:Nat→Nat→Value}{es:List T}{bs:List UInt8}(hs:∀ (i:Nat)(e:T),es[i]?=some e→e.cells.length=s)
   (hcell:∀ (i j:Nat) (e c:T),es[i]?=some e→e.cells[j]?=some c→¬ False∧w.cell? (ad.add (i*s+j))=some (us i j)∧(us i j).oneCell'=true)
   (h:∀ (i j:Nat) (e c:T),es[i]?=some e→e.cells[j]?=some c→TR w (fun _=>False) c (us i j)) (hb:allM byteOfT es=some bs) :
   ∃ ns:List Int,ns.length=es.length∧(∀ (j:Nat) (v:Value),(ns.map (Value.int .u8))[j]?=some v→w.cell? (ad.add j)=some v)∧bs=ns.map fun n=>UInt8.ofNat n.toNat:=by
 have hb':=allM_some hb;have hint:∀ (i:Nat) (e:T),es[i]?=some e→∃ n b,e = .int .u8 n∧bs[i]?=some b∧b=UInt8.ofNat n.toNat:=by
   intro i e he;obtain ⟨b,hbi,hbe⟩:=allM_get' hb he
   cases e with
   | int k n =>
    cases k<;>simp [byteOfT] at hbe
    exact ⟨n,b,rfl,hbi,hbe.symm⟩
   | _=>simp [byteOfT] at hbe
 let f:T→Int:=fun e=>match e with|.int _ n=>n|_=>0
 refine ⟨es.map f,by simp,fun j v hv=>?_,?_⟩
 · simp only [List.map_map,List.getElem?_map,Option.map_eq_some_iff] at hv
   obtain ⟨e,he,rfl⟩:=hv;obtain ⟨n,b,rfl,_,_⟩:=hint j e he;have hs1:=hs j _ he;simp only [T.cells,List.length_singleton] at hs1;subst hs1;obtain ⟨_,hc,_⟩:=hcell j 0 _ _ he rfl;have ht:=h j 0 _ _ he rfl;rw [Nat.mul_one,Nat.add_zero] at hc;rw [hc];generalize us j 0=uu at ht;cases ht;rfl
 · refine List.ext_getElem? fun i=>?_
   simp only [List.map_map,List.getElem?_map]
   cases he:es[i]? with
   | none =>
    rw [List.getElem?_eq_none_iff] at he;simp only [Option.map_none];exact List.getElem?_eq_none (by omega)
   | some e =>
    obtain ⟨n,b,rfl,hbi,hbe⟩:=hint i e he;rw [hbi,hbe];rfl
theorem foldl_push:∀ (ns:List Int) (r:ByteArray),ns.foldl (fun r n=>r.push (UInt8.ofNat n.toNat)) r=⟨r.data++(ns.map fun n=>UInt8.ofNat n.toNat).toArray⟩
 | [],r=>by cases r; simp
 | n::ns,r=>by
  rw [List.foldl_cons,foldl_push ns];cases r;simp [ByteArray.push]
theorem convD_sound {w:World}{m:M}{h:H}{s t:TypeId}{a d:D}{u:Value}(hr:HR m w h)(hu:VR m w a u)(hb:convD P h s t a=some d)(hsz:(tk P s).form≠0) :
   ∃ z w',(convert s t u).run P w = .ok z w'∧Below w.heap.size w w'∧VR m w' d z:=by
 obtain ⟨sd,hsd,_⟩:=tk_known hsz;have bytes:∀ {e:TypeId} (x:T),tk P s = .slice e→tk P e = .int .u8→tk P t = .str→snap h a=some x→(∃ es,x = .slice es)∨x = .nilSlice→∀ bs,(match x with|.slice es=>allM byteOfT es|_=>some [])=some bs →
     (convert s t u).run P w = .ok (.string ⟨bs.toArray⟩) w:=by
   intro e x hk hke hkt hx hform bs hbs;have htr:=snap_tr hr hu hx;rcases hform with ⟨es,rfl⟩|rfl
   · generalize hu':u=u' at htr
     cases htr with
     | @slice _ ad len cap sz us hl hlc hss hcell hh =>
     subst hl;obtain ⟨ns,hn1,hn2,rfl⟩:=byteCells hss hcell hh hbs;have hld:=run_loadCells_list (P:=P) w ad (ns.map (Value.int .u8)) hn2;rw [List.length_map,hn1] at hld;rw [run_convert_bytes_string w s t e (some ad) es.length cap (tk_slice hk) (tk_int hke) (tk_str hkt),run_bytesToString w ad es.length cap ns hld,foldl_push];congr 2;simp [ByteArray.empty,ByteArray.emptyWithCapacity];rfl
   · generalize hu':u=u' at htr
     cases htr;simp only [Option.some.injEq] at hbs;subst hbs;rw [run_convert_bytes_string w s t e none 0 0 (tk_slice hk) (tk_int hke) (tk_str hkt)];rfl
 unfold convD at hb;split at hb
 · cases hu with
   | t hu =>
   cases hu;cases hk:tk P t<;>simp only [hk] at hb<;>try (cases hb; done)
   cases hb;refine ⟨.int _ _,w,?_,Below.refl _ _,.t (.int _ _)⟩;simp only [convert,Sem.run_bind,run_underlying hsd,run_underlying (tk_int hk),Result.andThen_ok];cases sd<;>rfl
 · rename_i b
   cases hu with
   | t hu =>
   cases hu;cases hk:tk P t<;>simp only [hk] at hb<;>try (cases hb; done)
   · cases hb
     refine ⟨.string b,w,?_,Below.refl _ _,.t (.str _)⟩;simp only [convert,Sem.run_bind,run_underlying hsd,run_underlying (tk_str hk),Result.andThen_ok];cases sd<;>rfl
   · rename_i e
     cases hke:tk P e<;>simp only [hke] at hb<;>try (cases hb; done)
     rename_i k;cases k<;>simp only at hb<;>try (cases hb; done)
     cases hb
     let cap:=(Question.appendCap b.size 0 e).cut (w.tape w.drawn (.appendCap b.size 0 e))
     let cs:Array Value:=b.data.map (fun b=>Value.int .u8 b.toNat)++Array.replicate (cap-b.size) (.int .u8 0)
     let w1:World:=(w.drew.alloc (.cells cs e)).freeze ⟨w.heap.size,cs.size,none⟩ 1
     have hb1:w1.heap[w.heap.size]?=some (.cells cs e (cs.size,cs.size+1)):=by
       simp only [w1,World.freeze,World.alloc,World.drew];simp [Array.getElem_modify,-World.alloc_eq,-World.drew_eq]
     have hb0:∀ k,k<w.heap.size→w1.heap[k]? = w.heap[k]?:=by
       intro k hk;have:w.heap.size≠k:=by omega
       simp [w1,World.freeze,World.alloc,World.drew,-World.alloc_eq,-World.drew_eq,Array.getElem?_modify,this,Array.getElem?_push,Nat.ne_of_lt hk]
     have hbel:Below w.heap.size w w1:=by
       refine ⟨rfl,rfl,rfl,?_,hb0⟩;simp [w1,World.freeze,World.alloc,World.drew,-World.alloc_eq,-World.drew_eq]
     have hcapge:b.size≤cap:=by simp [cap,Question.cut]
     refine ⟨.slice (some ⟨w.heap.size,0,none⟩) b.size cap,w1,?_,hbel,.t ?_⟩
     · have hcv:convert s t (.string b)=(do let _ ←underlying s; let _ ←underlying t; let _ ←underlying e; Conv.stringToBytes e b)∨True:=.inr trivial
       simp only [convert,Sem.run_bind,run_underlying hsd,run_underlying (tk_slice hk),Result.andThen_ok];have:(Conv.stringToBytes e b).run P w = .ok (.slice (some ⟨w.heap.size,0,none⟩) b.size cap) w1:=by
         have hsh:(w.drew.alloc (.cells cs e)).shape? w.heap.size=some (e,cs.size):=by simp [World.shape?,World.alloc,World.drew,-World.alloc_eq,-World.drew_eq]
         simp [Conv.stringToBytes,newRow,markStringish,Question.forced,w1,cap,cs,hsh]
       cases sd<;>simp only [Sem.run_bind,run_underlying (tk_int hke),Result.andThen_ok,this]
     · refine .slice (s:=1) (us:=fun i _=>.int .u8 ((b.data.toList[i]?).getD 0).toNat) (by simp [bytesT]) hcapge (fun i x hi=>?_) (fun i j x c hi hc=>?_) (fun i j x c hi hc=>?_)
       all_goals simp only [bytesT,List.getElem?_map,Option.map_eq_some_iff] at hi
       all_goals obtain ⟨y,hy,rfl⟩:=hi
       · rfl
       · cases j with
         | succ j=>simp [T.cells] at hc
         | zero =>
         refine ⟨hr.fresh (Nat.le_refl _),?_,rfl⟩
         · have hi:i<b.size:=by have:=(List.getElem?_eq_some_iff.1 hy).1; simpa using this
           have hlt:i<cs.size:=by simp [cs]; omega
           rw [lit_add,cell_of_row w1 w.heap.size _ cs e _ hb1];simp only [cs,Nat.mul_one,Nat.add_zero,Nat.zero_add];rw [Array.getElem?_append_left (by simpa using hi)]
           have hyd:b.data[i]?=some y:=by simpa using hy
           simp [hyd,hy]
       · cases j with
         | succ j=>simp [T.cells] at hc
         | zero =>
         simp [T.cells] at hc;subst hc;simp only [hy,Option.getD_some];exact .int _ _
 · split at hb
   · rename_i e es hk hkt hsn
     cases hke:tk P e<;>simp only [hke] at hb<;>try (cases hb; done)
     rename_i k;cases k<;>simp only at hb<;>try (cases hb; done)
     obtain ⟨bs,hbs,rfl⟩:=Option.map_eq_some_iff.1 hb;exact ⟨_,w,bytes (.slice es) hk hke hkt hsn (.inl ⟨es,rfl⟩) bs hbs,Below.refl _ _,.t (.str _)⟩
   · rename_i e hk hkt hsn
     cases hke:tk P e<;>simp only [hke] at hb<;>try (cases hb; done)
     rename_i k;cases k<;>simp only at hb<;>try (cases hb; done)
     cases hb;exact ⟨_,w,bytes .nilSlice hk hke hkt hsn (.inr rfl) [] rfl,Below.refl _ _,.t (.str _)⟩
   · cases hb
end
end Vai
