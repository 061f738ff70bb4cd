import Derived.Test.YtaldobgfbkllfaaGreatDoorVaiSh
import Derived.KernelRfl
set_option linter.unusedSimpArgs false
set_option linter.unusedVariables false
set_option linter.unusedSectionVars false
namespace Go.Proofs.YtaldobgfbkllfaaGreatDoor.P0
open Vai
variable [Gl]
set_option maxHeartbeats 0
set_option maxRecDepth 100000
def PX (n:Nat)(h:H)(P:Nat)(s:ByteArray)(ts:List Tk)(d:Nat)(out:List PT):Prop:=n≤P∧P<h.next∧h.marks=[]∧∃ x o,Slice x (ts.map Tk.t)∧h.objs P=some (psO s x d o) ∧
 ((o = .t .nilSlice∧out=[])∨∃ id,n≤id∧id<h.next∧o = .row id 0 out.length out.length∧h.objs id=some (.row 57 9 ((out.map prP).map .t)))
def Own (h:H)(P j:Nat):Prop:=j=P∨∃ l k,loadD Tryz.prog h 22 (.ptr P 0 3 1)=some (.row j 0 l k)
def Fr (n P:Nat)(h h':H):Prop:=h.next≤h'.next∧h'.marks=h.marks∧(∀ id,id<n→h'.objs id=h.objs id)∧(∀ j,j<h.next→¬ Own h P j→h'.objs j=h.objs j)∧(∀ j,j<h.next→Own h' P j→Own h P j)
theorem Fr.refl (n:Nat){P:Nat}(h:H):Fr n P h h:=⟨Nat.le_refl _,rfl,fun _ _=>rfl,fun _ _ _=>rfl,fun _ _ h=>h⟩
theorem Fr.trans {n P:Nat}{h h1 h2:H}(a:Fr n P h h1)(b:Fr n P h1 h2):Fr n P h h2 :=
 ⟨Nat.le_trans a.1 b.1,b.2.1.trans a.2.1,fun id hid=>(b.2.2.1 id hid).trans (a.2.2.1 id hid),
  fun j hj ho=>(b.2.2.2.1 j (Nat.lt_of_lt_of_le hj a.1) (fun o=>ho (a.2.2.2.2 j hj o))).trans (a.2.2.2.1 j hj ho),
  fun j hj ho=>a.2.2.2.2 j hj (b.2.2.2.2 j (Nat.lt_of_lt_of_le hj a.1) ho)⟩
theorem Fr.of {n P:Nat}{h h':H}{s s':ByteArray}{x x':T}{d d':Int}{o o':D}(ho:h.objs P=some (psO s x d o))(hx:x.cells=[x])(ho':h'.objs P=some (psO s' x' d' o'))(hx':x'.cells=[x'])
   (h1:n≤P) (hn:h.next≤h'.next) (hm:h'.marks=h.marks) (hle:n≤h.next) (hob:∀ j,j<h.next→j≠P→(∀ l k,o ≠ .row j 0 l k)→h'.objs j=h.objs j) (hlow:∀ j l k,o = .row j 0 l k→n≤j)
   (hoo:∀ j l k,j<h.next→o' = .row j 0 l k→∃ l k,o = .row j 0 l k):Fr n P h h':=by
 have e:=ps_3 ho hx;have e':=ps_3 ho' hx';refine ⟨hn,hm,fun id hid=>hob id (by omega) (by omega) (fun l k c=>by have:=hlow _ _ _ c; omega),fun j hj hno=>?_,fun j hj hj'=>?_⟩
 · refine hob j hj (fun c=>hno (.inl c)) (fun l k c=>hno (.inr ⟨l,k,by rw [e,c]⟩))
 · rcases hj' with c|⟨l,k,c⟩
   · exact .inl c
   · rw [e'] at c
     obtain ⟨l,k,c⟩:=hoo j l k hj (Option.some.inj c);exact .inr ⟨l,k,by rw [e,c]⟩
theorem s128 {n:Nat}{h:H}{P:Nat}{s:ByteArray}{ts:List Tk}{d:Nat}{out:List PT}(hp:PX n h P s ts d out)(hlen:out.length≤1000000)(p:PT) :
   ∃ h',call cx prim0 128 [.ptr P 0 0 1,.t (prP p)] h=some (.t (.int .i64 out.length),h')∧PX n h' P s ts d (out ++ [p])∧Fr n P h h':=by
 obtain ⟨h1,h2,h3,x,o,hx,hd,h5⟩:=hp;rw [call_run (cx:=cx) rfl Tryz.func128 ok128 nd128 rfl (lbe rfl) rfl rfl];have hb:∀ w,(h.push w).objs P=some (psO s x d o):=fun w=>by simp only [push_objs,upd_ne _ _ (show P≠h.next by omega)]; exact hd
 have hb':∀ w w',((h.push w).push w').objs P=some (psO s x d o):=fun w w'=>by simp only [push_objs,push_next,upd_ne _ _ (show P≠h.next by omega),upd_ne _ _ (show P≠h.next+1 by omega)]; exact hd
 have hc:=Slice.cells hx;have f1:=fun w=>ps_3 (hb w) hc
 have f2:=fun w=>ps_nil (hb w)
 have f3:=fun w=>ps_f3 (hb w)
 have g1':=fun w w'=>ps_3 (hb' w w') hc
 have g2':=fun w w'=>ps_nil (hb' w w')
 have g3':=fun w w'=>ps_f3 (hb' w w')
 rcases h5 with ⟨rfl,rfl⟩|⟨id,g1,g2,rfl,g3⟩
 · have hb2:∀ w w' w'',(((h.push w).push w').push w'').objs P=some (psO s x d (.t .nilSlice)):=fun w w' w''=>by
    simp only [push_objs,push_next,upd_ne _ _ (show P≠h.next by omega),upd_ne _ _ (show P≠h.next+1 by omega),upd_ne _ _ (show P≠h.next+1+1 by omega)]; exact hd
   have k2:=fun w w' w''=>ps_nil (hb2 w w' w'')
   have kf:=fun w w' w''=>ps_3 (hb2 w w' w'') hc
   have k3:=fun w w' w''=>ps_f3 (hb2 w w' w'')
   have k4:=fun w w'=>ps_s3 (o':=.row (h.next+1) 0 1 1) (hb' w w') hc rfl (by simp [h3])
   have hb4:∀ w w',(((h.push w).push w').set P (psO s x d (.row (h.next+1) 0 1 1))).objs P=some (psO s x d (.row (h.next+1) 0 1 1)):=fun w w'=>by simp
   have j1:=fun w w'=>ps_3 (hb4 w w') hc
   have j2:=fun w w'=>ps_nil (hb4 w w')
   have j3:=fun w w'=>ps_f3 (hb4 w w')
   simp -implicitDefEqProofs (disch:=omega) [-storeD,-nilCheckD,-fieldAddrD,f1,f2,f3,g1',g2',g3',litSliceD,List.replicate,appendD,sourceD,kf,k2,k3,k4,j1,j2,j3,md,show ¬ (h.next+1=P) by omega]
   refine ⟨⟨h1,by simp; omega,h3,x,_,hx,by simp; rfl,.inr ⟨h.next+1,by omega,by simp,by simp,?_⟩⟩,Fr.of hd hc (by simp; rfl) hc h1 (by simp; omega) (by simp) (by omega) (fun j a1 a2 a3=>by simp [a2,show ¬ (j=h.next) by omega,show ¬ (j=h.next+1) by omega]) (fun j l k c=>by cases c) (fun j l k hj c=>by cases c; omega)⟩
   simp [show ¬ (h.next+1=P) by omega]
 · have hne:id≠P:=fun e=>by
    subst e;rw [hd] at g3;simp [psO] at g3
   have hb3:∀ w,(h.push w).objs id=some (.row 57 9 ((out.map prP).map .t)):=fun w=>by simp only [push_objs,upd_ne _ _ (show id≠h.next by omega)]; exact g3
   have hb3':∀ w w',((h.push w).push w').objs id=some (.row 57 9 ((out.map prP).map .t)):=fun w w'=>by simp only [push_objs,push_next,upd_ne _ _ (show id≠h.next by omega),upd_ne _ _ (show id≠h.next+1 by omega)]; exact g3
   have hb2:∀ w w',((h.push w).set id w').objs P=some (psO s x d (.row id 0 out.length out.length)):=fun w w'=>by simp only [push_objs,set_objs,upd_ne _ _ (show P≠h.next by omega),upd_ne _ _ (show P≠id from fun e=>hne e.symm)]; exact hd
   have k2:=fun w w'=>ps_nil (hb2 w w')
   have kf:=fun w w'=>ps_3 (hb2 w w') hc
   have k3:=fun w w'=>ps_f3 (hb2 w w')
   have k4:=fun w w'=>ps_s3 (o':=.row id 0 (out.length+1) (out.length+1)) (hb2 w w') hc rfl (by simp [h3])
   have hb4:∀ w w',(((h.push w).set id w').set P (psO s x d (.row id 0 (out.length+1) (out.length+1)))).objs P=some (psO s x d (.row id 0 (out.length+1) (out.length+1))):=fun w w'=>by simp
   have j1:=fun w w'=>ps_3 (hb4 w w') hc
   have j2:=fun w w'=>ps_nil (hb4 w w')
   have j3:=fun w w'=>ps_f3 (hb4 w w')
   have e1:(out.length:Nat)+1<140737488355328:=by omega
   have e2:(out.length+1)*88≤140737488355328:=by omega
   simp -implicitDefEqProofs (disch:=omega) [-storeD,-nilCheckD,-fieldAddrD,f1,f2,f3,g1',g2',g3',litSliceD,List.replicate,appendD,sourceD,kf,k2,k3,k4,j1,j2,j3,md,hb3,hb3',h3,e1,e2,show ¬ (id=h.next) by omega,g3,hne]
   refine ⟨⟨h1,by simp; omega,h3,x,_,hx,by simp; rfl,.inr ⟨id,g1,by simp; omega,by simp,?_⟩⟩,Fr.of hd hc (by simp; rfl) hc h1 (by simp) (by simp) (by omega) (fun j a1 a2 a3=>by simp [a2,show ¬ (j=h.next) by omega,show ¬ (j=id) from fun e=>a3 _ _ (by rw [e])]) (fun j l k c=>(D.row.inj c).1 ▸ g1) (fun j l k hj c=>⟨_,_,by rw [(D.row.inj c).1]⟩)⟩
   simp [hne]
theorem PX.get {n:Nat}{h:H}{P:Nat}{s:ByteArray}{ts:List Tk}{d:Nat}{out:List PT}(hp:PX n h P s ts d out) :
   ∃ x o,Slice x (ts.map Tk.t)∧h.objs P=some (psO s x d o)∧∀ (y:T) (ts2:List Tk) (e:Nat),Slice y (ts2.map Tk.t)→PX n (h.set P (psO s y e o)) P s ts2 e out∧Fr n P h (h.set P (psO s y e o)):=by
 obtain ⟨h1,h2,h3,x,o,hx,hd,h5⟩:=hp;refine ⟨x,o,hx,hd,fun y ts2 e hy=>⟨⟨h1,h2,h3,y,o,hy,by simp,?_⟩,Fr.of hd (Slice.cells hx) (by simp; rfl) (Slice.cells hy) h1 (by simp) rfl (by omega) (fun j a1 a2 a3=>by simp [a2]) (fun j l k c=>?_) (fun j l k hj c=>⟨l,k,c⟩)⟩⟩
 rotate_left
 · rcases h5 with ⟨e,_⟩|⟨id,g1,g2,e,g3⟩
   · rw [e] at c; cases c
   · rw [e] at c; cases c; exact g1
 rcases h5 with h5|⟨id,g1,g2,rfl,g3⟩
 · exact .inl h5
 · have hne:id≠P:=fun e=>by
     subst e;rw [hd] at g3;simp [psO] at g3
   exact .inr ⟨id,g1,g2,rfl,by simp only [set_objs,upd_ne _ _ hne]; exact g3⟩
section
variable {n:Nat}{h:H}{P:Nat}{s:ByteArray}{ts:List Tk}{d:Nat}{out:List PT}{c:FuncId}
theorem x125 (hp:PX n h P s ts d out)(hm:md c 125 = .keep):callD (cx.at c) (call cx prim0) 125 [.ptr P 0 0 1] h=some (.t (.str (sg ts)),h):=by
 obtain ⟨x,o,hx,ho,_⟩:=hp.get;exact c125 ho hx hm
theorem x76 (hp:PX n h P s ts d out)(hm:md c 76 = .keep):callD (cx.at c) (call cx prim0) 76 [.ptr P 0 0 1] h=some (.t (.int .i64 (plc s.size ts)),h):=by
 obtain ⟨x,o,hx,ho,_⟩:=hp.get;exact c76 ho hx hm
theorem x126 {t:Tk}(hp:PX n h P s (t::ts) d out){y:ByteArray}(hy:sg (t::ts)=y)(hm:md c 126 = .keep) :
  ∃ h',callD (cx.at c) (call cx prim0) 126 [.ptr P 0 0 1,.t (.str y)] h=some (.t (.int .i64 t.pos),h')∧PX n h' P s ts d out∧Fr n P h h':=by
 obtain ⟨x,o,hx,ho,k⟩:=hp.get;exact ⟨_,keepT cb126 hm (s126 ho hx hy),k _ ts d (.inr rfl)⟩
theorem x126_no (hp:PX n h P s ts d out){y:ByteArray}(hy:sg ts≠y)(hm:md c 126 = .keep) :
  callD (cx.at c) (call cx prim0) 126 [.ptr P 0 0 1,.t (.str y)] h=none∧callX (cx.at c) (call cx prim0) 126 [.ptr P 0 0 1,.t (.str y)] h=some (fau (plc s.size ts) 131,h):=by
 obtain ⟨x,o,hx,ho,k⟩:=hp.get;exact panT cb126 hm (s126_no ho hx hy)
theorem x127 (hp:PX n h P s ts d out)(hd:d<16)(p:Int)(hm:md c 127 = .keep) :
  ∃ h',callD (cx.at c) (call cx prim0) 127 [.ptr P 0 0 1,.t (.int .i64 p)] h=some (.tup [],h')∧PX n h' P s ts (d+1) out∧Fr n P h h':=by
 obtain ⟨x,o,hx,ho,k⟩:=hp.get;exact ⟨_,keepT cb127 hm (s127 ho (Slice.cells hx) hd p),k _ ts (d+1) hx⟩
theorem x127_no (hp:PX n h P s ts d out)(hd:16≤d)(hd2:d≤1000)(p:Int)(hm:md c 127 = .keep) :
  ∃ h',callD (cx.at c) (call cx prim0) 127 [.ptr P 0 0 1,.t (.int .i64 p)] h=none∧callX (cx.at c) (call cx prim0) 127 [.ptr P 0 0 1,.t (.int .i64 p)] h=some (fau p 134,h')∧Fr n P h h':=by
 obtain ⟨x,o,hx,ho,k⟩:=hp.get;have q:=panT (cc:=cx.at c) cb127 hm (s127_no ho (Slice.cells hx) hd hd2 p);exact ⟨_,q.1,q.2,(k _ ts (d+1) hx).2⟩
theorem x128 (hp:PX n h P s ts d out)(hlen:out.length≤1000000)(p:PT)(hm:md c 128 = .keep) :
  ∃ h',callD (cx.at c) (call cx prim0) 128 [.ptr P 0 0 1,.t (prP p)] h=some (.t (.int .i64 out.length),h')∧PX n h' P s ts d (out ++ [p])∧Fr n P h h':=by
 obtain ⟨h',q,r⟩:=s128 hp hlen p;exact ⟨h',keepT cb128 hm q,r⟩
def Res (k:FuncId)(n:Nat)(h:H)(P:Nat)(s:ByteArray)(d:Nat):PR→Prop
 | .ok v ts2 out2=>∃ h',call cx prim0 k [.ptr P 0 0 1] h=some (.t (.int .i64 v),h')∧PX n h' P s ts2 d out2∧Fr n P h h'
 | .er p w=>∃ h',call cx prim0 k [.ptr P 0 0 1] h=some (.pan (fau p w),h')∧Fr n P h h'
theorem s235_no (hp:PX n h P s ts d out)(hy:sg ts≠bOpen):Res 235 n h P s d (.er (plc s.size ts) 131):=by
 have f:=x126_no (c:=235) hp hy rfl;refine ⟨h,?_,Fr.refl _ _⟩;rw [call_run (cx:=cx) rfl Tryz.func235 ok235 nd235 rfl (lbe rfl) rfl rfl];simp only [bOpen] at f;simp -implicitDefEqProofs (disch:=omega) [f.1,f.2]
theorem s235_deep {t:Tk}(hp:PX n h P s (t::ts) d out)(hy:sg (t::ts)=bOpen)(hd:16≤d)(hd2:d≤1000):Res 235 n h P s d (.er t.pos 134):=by
 obtain ⟨h1,f1,g1,r1⟩:=x126 (c:=235) hp hy rfl;obtain ⟨h2,f2,g2,r2⟩:=x127_no (c:=235) g1 hd hd2 t.pos rfl;refine ⟨h2,?_,r1.trans r2⟩;rw [call_run (cx:=cx) rfl Tryz.func235 ok235 nd235 rfl (lbe rfl) rfl rfl];simp only [bOpen] at f1;simp -implicitDefEqProofs (disch:=omega) [f1,f2,g2]
theorem s235 {t:Tk}(hp:PX n h P s (t::ts) d out)(hy:sg (t::ts)=bOpen)(hd:d<16){r:PR}(ih:∀ h,PX n h P s ts (d+1) out→Res 75 n h P s (d+1) r) :
  Res 235 n h P s d (match r with
    | .er p w=>.er p w
    | .ok v [] out2=>.er (plc s.size []) 131
    | .ok v (t2::ts2) out2=>if sg (t2::ts2)=bClose then .ok v ts2 out2 else .er t2.pos 131):=by
 obtain ⟨h1,f1,g1,r1⟩:=x126 (c:=235) hp hy rfl;obtain ⟨h2,f2,g2,r2⟩:=x127 (c:=235) g1 hd t.pos rfl;simp only [bOpen] at f1
 cases r with
 | er p w =>
  obtain ⟨h3,q3,r3⟩:=ih h2 g2;have q:=panT (cc:=cx.at 235) cb75 rfl q3;refine ⟨h3,?_,(r1.trans r2).trans r3⟩;rw [call_run (cx:=cx) rfl Tryz.func235 ok235 nd235 rfl (lbe rfl) rfl rfl];simp -implicitDefEqProofs (disch:=omega) [f1,f2,q.1,q.2]
 | ok v ts2 out2 =>
  obtain ⟨h3,q3,g3,r3⟩:=ih h2 g2;have q:=keepT (cc:=cx.at 235) cb75 rfl q3;by_cases hc:sg ts2=bClose
  · obtain ⟨t2,ts2,rfl⟩:=sg_ne hc (by decide)
    obtain ⟨h4,f4,g4,r4⟩:=x126 (c:=235) g3 hc rfl;obtain ⟨x,o,hx,ho,k⟩:=g4.get;have f5:=ps_2 ho (Slice.cells hx);have f6:=ps_s2 ho (Slice.cells hx) d;obtain ⟨g5,r5⟩:=k x ts2 d hx;simp only [if_pos hc];refine ⟨_,?_,g5,(((r1.trans r2).trans r3).trans r4).trans r5⟩;rw [call_run (cx:=cx) rfl Tryz.func235 ok235 nd235 rfl (lbe rfl) rfl rfl];simp only [bClose] at f4;have e1:(d:Int)+1-1=d:=by omega
    simp -implicitDefEqProofs (disch:=omega) [-storeD,-nilCheckD,-fieldAddrD,-load_ptr,f1,f2,q,f4,ps_nil ho,ps_f2 ho,f5,f6,e1]
  · have f4:=x126_no (c:=235) g3 hc rfl
    have:Res 235 n h P s d (.er (plc s.size ts2) 131):=by
     refine ⟨h3,?_,(r1.trans r2).trans r3⟩;rw [call_run (cx:=cx) rfl Tryz.func235 ok235 nd235 rfl (lbe rfl) rfl rfl];simp only [bClose] at f4;simp -implicitDefEqProofs (disch:=omega) [f1,f2,q,f4.1,f4.2]
    cases ts2 with
    | nil=>exact this
    | cons t2 ts2=>simp only [if_neg hc]; exact this
end
def idxI (l:List ByteArray)(x:ByteArray):Int:=match l.findIdx? (fun y=>decide (y=x)) with
 | some i=>i
 | none=>-1
theorem idx_some {l:List ByteArray}{x:ByteArray}{k:Nat}(h1:∀ j,j<k→∀ y,l[j]?=some y→y≠x)(h2:l[k]?=some x):idxI l x=k:=by
 have:l.findIdx? (fun y=>decide (y=x))=some k:=by
  rw [List.findIdx?_eq_some_iff_getElem];obtain ⟨hk,e⟩:=List.getElem?_eq_some_iff.1 h2;refine ⟨hk,by simp [e],fun j hj=>?_⟩
  have:=h1 j hj _ (List.getElem?_eq_getElem (by omega))
  simpa using this
 simp only [idxI,this]
theorem idx_none {l:List ByteArray}{x:ByteArray}(h1:∀ j,j<l.length→∀ y,l[j]?=some y→y≠x):idxI l x = -1:=by
 have:l.findIdx? (fun y=>decide (y=x))=none:=by
  rw [List.findIdx?_eq_none_iff];intro y hy;obtain ⟨j,hj,e⟩:=List.mem_iff_getElem.1 hy;have:=h1 j hj y (by rw [←e]; exact List.getElem?_eq_getElem hj)
  simpa using this
 simp only [idxI,this]
theorem s187 (l:List ByteArray)(x:ByteArray)(hl:l.length≤1000):∃ h',call cx prim0 187 [.t (.slice (l.map .str)),.t (.str x)] .empty=some (.t (.int .i64 (idxI l x)),h'):=by
 rw [call_run (cx:=cx) rfl Tryz.func187 ok187 nd187 rfl (lbe rfl) rfl rfl];simp -implicitDefEqProofs (disch:=omega) [];generalize hLp:loopω (LB cx prim0 187 Tryz.f187 0) _=R;obtain ⟨x',⟨nn,env,h2⟩,rfl,⟨rfl,hr⟩⟩:=loop_uses hLp l.length
   (fun k st=>st.n=19∧st.env 0 = .t (.slice (l.map .str))∧st.env 1 = .t (.str x)∧st.env 7 = .t (.int .i64 l.length)∧st.env 8 = .t (.int .i64 k)∧∀ j,j<k→∀ y,l[j]?=some y→y≠x)
   (fun x' st=>st.n=19∧((x' = .exit 0∧idxI l x = -1)∨(x' = .ret∧st.env 4 = .t (.int .i64 (idxI l x)))))
   (by refine ⟨rfl,by simp,by simp,by simp,by simp,fun j hj=>by omega⟩) (by
   rintro k ⟨nn,env,h2⟩ hk ⟨rfl,e0,e1,e7,e8,hall⟩;simp only at e0 e1 e7 e8;rw [LB_run nd187 rfl];by_cases hk':k<l.length
   · obtain ⟨y,hy⟩:∃ y,l[k]?=some y:=⟨l[k],by simp [hk']⟩
     by_cases hxy:x=y
     · subst hxy
       have hi:=idx_some hall hy;have hy2:(l.map T.str)[k]?=some (.str x):=by simp [hy]
       generalize hL:l.map T.str=L at *;have hL2:L.length=l.length:=by rw [←hL]; simp
       simp -implicitDefEqProofs (disch:=omega) [-getElem?_pos,e0,e1,e7,e8,hk',hy2,eqS,hi,hL2,Wp_some]
     · have hy2:(l.map T.str)[k]?=some (.str y):=by simp [hy]
       have hall2:∀ j,j<k+1→∀ y,l[j]?=some y→y≠x:=fun j hj z hz=>by
        by_cases e:j=k
        · subst e; rw [hy] at hz; cases hz; exact fun e=>hxy e.symm
        · exact hall j (by omega) z hz
       generalize hL:l.map T.str=L at *;have hL2:L.length=l.length:=by rw [←hL]; simp
       simp -implicitDefEqProofs (disch:=omega) [-getElem?_pos,e0,e1,e7,e8,hk',hy2,eqS,hxy,hL2,Wp_some];exact hall2
   · have hi:=idx_none (l:=l) (x:=x) (fun j hj=>hall j (by omega))
     simp -implicitDefEqProofs (disch:=omega) [e0,e1,e7,e8,hk',hi,Wp_some])
 simp only at hr;rcases hr with ⟨rfl,hi⟩|⟨rfl,hi⟩
 · simp -implicitDefEqProofs (disch:=omega) [hi]
 · simp -implicitDefEqProofs (disch:=omega) [hi]
theorem c187 {c:FuncId}(l:List ByteArray)(x:ByteArray)(hl:l.length≤1000)(h:H)(hm:md c 187 = .pure):callD (cx.at c) (call cx prim0) 187 [.t (.slice (l.map .str)),.t (.str x)] h=some (.t (.int .i64 (idxI l x)),h):=by
 obtain ⟨h',q⟩:=s187 l x hl;exact pureT cb187 hm q rfl rfl
theorem c171 {c:FuncId}(l:List ByteArray)(x:ByteArray)(hl:l.length≤1000)(h:H)(hm:md c 171 = .pure):callD (cx.at c) (call cx prim0) 171 [.t (.slice (l.map .str)),.t (.str x)] h=some (.t (.bool (decide (0≤idxI l x))),h):=by
 have q:∃ h',call cx prim0 171 [.t (.slice (l.map .str)),.t (.str x)] .empty=some (.t (.bool (decide (0≤idxI l x))),h'):=by
  rw [call_run (cx:=cx) rfl Tryz.func171 ok171 nd171 rfl (lbe rfl) rfl rfl];have f:=fun h=>c187 (c:=171) l x hl h rfl
  simp -implicitDefEqProofs (disch:=omega) [f,leI]
 obtain ⟨h',q⟩:=q;exact pureT cb171 hm q rfl rfl
theorem idx_le {l:List ByteArray}{x:ByteArray} : -1≤idxI l x∧idxI l x≤l.length:=by
 unfold idxI
 cases h:l.findIdx? (fun y=>decide (y=x)) with
 | none=>simp only; omega
 | some i =>
  rw [List.findIdx?_eq_some_iff_getElem] at h;obtain ⟨hk,_⟩:=h;simp only; omega
theorem c172 {c:FuncId}(x:ByteArray)(h:H)(hm:md c 172 = .pure):callD (cx.at c) (call cx prim0) 172 [.t (.str x)] h=some (.t (.int .i64 (6+idxI sgn x)),h):=by
 have q:∃ h',call cx prim0 172 [.t (.str x)] .empty=some (.t (.int .i64 (6+idxI sgn x)),h'):=by
  rw [call_run (cx:=cx) rfl Tryz.func172 ok172 nd172 rfl (lbe rfl) rfl rfl];have f:=fun h=>c187 (c:=172) sgn x (by decide) h rfl
  obtain ⟨a1,a2⟩:=idx_le (l:=sgn) (x:=x);have a3:idxI sgn x≤13:=a2;generalize idxI sgn x=J at *;simp only [sgn,List.map_cons,List.map_nil] at f;simp -implicitDefEqProofs (disch:=omega) [f,litSliceD,List.replicate]
 obtain ⟨h',q⟩:=q;exact pureT cb172 hm q rfl rfl
def lvS:Nat→List ByteArray
 | 1=>[⟨#[42]⟩,⟨#[47]⟩,⟨#[37]⟩]
 | 2=>[⟨#[43]⟩,⟨#[45]⟩]
 | 3=>[⟨#[61,61]⟩,⟨#[33,61]⟩,⟨#[60]⟩,⟨#[60,61]⟩,⟨#[62]⟩,⟨#[62,61]⟩]
 | 4=>[⟨#[38,38]⟩]
 | _=>[⟨#[124,124]⟩]
def lvM:Nat→Int
 | 3=>1
 | _=>256
theorem sgn_cases (x:ByteArray):(∃ i,i<13∧sgn[i]?=some x)∨∀ y∈sgn,y≠x:=by
 by_cases h:x∈sgn
 · obtain ⟨i,hi,e⟩:=List.mem_iff_getElem.1 h
   exact .inl ⟨i,hi,by rw [←e]; exact List.getElem?_eq_getElem hi⟩
 · exact .inr fun y hy e=>h (e ▸ hy)
theorem lvS_sub {m:Nat}(hm:m≤4):∀ y∈lvS (m+1),y∈sgn:=by
 have:m=0∨m=1∨m=2∨m=3∨m=4:=by omega
 rcases this with rfl|rfl|rfl|rfl|rfl<;>simp [lvS,sgn]
theorem idx_out {l:List ByteArray}{x:ByteArray}(h:∀ y∈l,y≠x):idxI l x = -1 :=
 idx_none fun j hj y hy=>h y (List.mem_of_getElem? hy)
theorem opA_idx {m:Nat}(hm:m≤4)(x:ByteArray):(∀ i,opA (m+1) x=some i→0≤idxI (lvS (m+1)) x∧idxI sgn x=i∧x≠noText)∧(opA (m+1) x=none→idxI (lvS (m+1)) x<0):=by
 rcases sgn_cases x with ⟨i,hi,e⟩|h
 · have hm':m=0∨m=1∨m=2∨m=3∨m=4:=by omega
   have hi':i=0∨i=1∨i=2∨i=3∨i=4∨i=5∨i=6∨i=7∨i=8∨i=9∨i=10∨i=11∨i=12:=by omega
   rcases hi' with rfl|rfl|rfl|rfl|rfl|rfl|rfl|rfl|rfl|rfl|rfl|rfl|rfl <;>
    (simp only [sgn,List.getElem?_cons_succ,List.getElem?_cons_zero,Option.some.injEq] at e; subst e;
     rcases hm' with rfl|rfl|rfl|rfl|rfl<;>decide)
 · have h1:=idx_out h
   have h2:idxI (lvS (m+1)) x = -1:=idx_out fun y hy=>h y (lvS_sub hm y hy)
   have h3:opA (m+1) x=none:=by
    unfold opA;unfold idxI at h1
    cases hf:sgn.findIdx? (fun y=>decide (y=x)) with
    | none=>rfl
    | some i=>rw [hf] at h1; simp only at h1; omega
   rw [h2,h3];exact ⟨fun i e=>(by cases e),fun _=>(by decide)⟩
def fnOf:Nat→FuncId
 | 0=>215|1=>205|2=>188|3=>173|4=>158|5=>124|_=>75
def At157 (m:Nat)(P:Nat)(a n:Nat)(h:H)(st:St):Prop:=st.n=50∧st.h=h∧st.env 0 = .ptr P 0 0 1∧st.env 1 = .func (.func (fnOf m)) [] []∧st.env 2 = .t (.int .i64 (lvM (m+1)))∧st.env 3 = .t (.slice ((lvS (m+1)).map .str))∧st.env 9 = .t (.int .i64 a)∧st.env 10 = .t (.int .i64 n)
def Res157 (m n:Nat)(h:H)(P:Nat)(s:ByteArray)(d:Nat)(st:St):PR→Prop
 | .ok v ts2 out2=>∃ st',loopω (LB cx prim0 157 Tryz.f157 0) st=some (.exit 0,st')∧st'.n=50∧st'.env 9 = .t (.int .i64 v)∧PX n st'.h P s ts2 d out2∧Fr n P h st'.h
 | .er p w=>∃ st',loopω (LB cx prim0 157 Tryz.f157 0) st=some (.pan (fau p w),st')∧Fr n P h st'.h
theorem lvS_len {m:Nat}(hm:m≤4):(lvS (m+1)).length≤1000:=by
 have:m=0∨m=1∨m=2∨m=3∨m=4:=by omega
 rcases this with rfl|rfl|rfl|rfl|rfl<;>decide
theorem lvM_is {m:Nat}(hm:m≤4):(m=2→lvM (m+1)=1)∧(m≠2→lvM (m+1)=256):=by
 have:m=0∨m=1∨m=2∨m=3∨m=4:=by omega
 rcases this with rfl|rfl|rfl|rfl|rfl<;>decide
section
variable {n:Nat}{h:H}{P:Nat}{s:ByteArray}{ts:List Tk}{d:Nat}{out:List PT}{m a k:Nat}
theorem l157_end (hm:m≤4)(hp:PX n h P s ts d out)(hx:(m=2∧1≤k)∨opA (m+1) (sg ts)=none){st:St}(hst:At157 m P a k h st):Res157 m n h P s d st (.ok a ts out):=by
 obtain ⟨nn,env,h'⟩:=st;obtain ⟨rfl,rfl,e0,e1,e2,e3,e9,e10⟩:=hst;simp only at e0 e1 e2 e3 e9 e10 hp ⊢;have f1:=x125 (c:=157) hp rfl;have hcon:=fun hh=>c171 (c:=157) (lvS (m+1)) (sg ts) (lvS_len hm) hh rfl
 have hop:=(opA_idx hm (sg ts)).2;have hM:=lvM_is hm;have hbr:¬ ((k:Int)<lvM (m+1))∨((k:Int)<lvM (m+1)∧sg ts=noText)∨((k:Int)<lvM (m+1)∧sg ts≠noText∧¬ (0≤idxI (lvS (m+1)) (sg ts))):=by
   by_cases h1:(k:Int)<lvM (m+1)
   · right
     rcases hx with ⟨rfl,h2⟩|h2
     · have:=hM.1 rfl; omega
     · by_cases h3:sg ts=noText
       · exact .inl ⟨h1,h3⟩
       · exact .inr ⟨h1,h3,by have:=hop h2; omega⟩
   · exact .inl h1
 clear hop hM hx;generalize lvS (m+1)=S at *;generalize lvM (m+1)=M at *;unfold Res157;rw [loop_step,LB_run nd157 rfl];rcases hbr with b1|⟨b1,b2⟩|⟨b1,b2,b3⟩
 · simp -implicitDefEqProofs (disch:=omega) [e0,e1,e2,e3,e9,e10,f1,hcon,eqS,b1]
   exact ⟨hp,Fr.refl _ _⟩
 · simp only [noText] at b2
   rw [b2] at f1;simp -implicitDefEqProofs (disch:=omega) [e0,e1,e2,e3,e9,e10,f1,hcon,eqS,b1];exact ⟨hp,Fr.refl _ _⟩
 · simp only [noText] at b2
   simp -implicitDefEqProofs (disch:=omega) [e0,e1,e2,e3,e9,e10,f1,hcon,eqS,b1,b2,b3];exact ⟨hp,Fr.refl _ _⟩
theorem fn_cb (hm:m≤6):callable Tryz.prog (fnOf m)=true:=by
 have:m=0∨m=1∨m=2∨m=3∨m=4∨m=5∨m=6:=by omega
 rcases this with rfl|rfl|rfl|rfl|rfl|rfl|rfl
 · exact cb215
 · exact cb205
 · exact cb188
 · exact cb173
 · exact cb158
 · exact cb124
 · exact cb75
theorem fn_md (hm:m≤6)(c:FuncId):md c (fnOf m) = .keep:=by
 have:m=0∨m=1∨m=2∨m=3∨m=4∨m=5∨m=6:=by omega
 rcases this with rfl|rfl|rfl|rfl|rfl|rfl|rfl<;>simp [md,fnOf]
theorem l157_er {t:Tk}{i:Nat}{p w:Int}(hm:m≤4)(hp:PX n h P s (t::ts) d out)(hn:¬ (m=2∧1≤k))(hop:opA (m+1) (sg (t::ts))=some i)(hk:k<256)
  (ih:∀ h,PX n h P s ts d out→Res (fnOf m) n h P s d (.er p w)) {st:St} (hst:At157 m P a k h st):Res157 m n h P s d st (.er p w):=by
 obtain ⟨nn,env,h'⟩:=st;obtain ⟨rfl,rfl,e0,e1,e2,e3,e9,e10⟩:=hst;simp only at e0 e1 e2 e3 e9 e10 hp ⊢;have f1:=x125 (c:=157) hp rfl;have hcon:=fun hh=>c171 (c:=157) (lvS (m+1)) (sg (t::ts)) (lvS_len hm) hh rfl
 obtain ⟨h1,f2,g1,r1⟩:=x126 (c:=157) hp rfl rfl;obtain ⟨h2,q,r2⟩:=ih h1 g1;have q2:=panT (cc:=cx.at 157) (fn_cb (m:=m) (by omega)) (fn_md (by omega) 157) q
 obtain ⟨o1,o2,o3⟩:=(opA_idx hm (sg (t::ts))).1 i hop;have b1:(k:Int)<lvM (m+1):=by
  have hM:=lvM_is hm;by_cases hm2:m=2
  · have:=hM.1 hm2; omega
  · have:=hM.2 hm2; omega
 clear ih q hn;generalize fnOf m=K at *;generalize lvS (m+1)=S at *;generalize lvM (m+1)=M at *;simp only [noText] at o3;unfold Res157;rw [loop_step,LB_run nd157 rfl];simp -implicitDefEqProofs (disch:=omega) [e0,e1,e2,e3,e9,e10,f1,hcon,eqS,b1,o3,o1,f2,q2.1,q2.2];exact r1.trans r2
theorem l157_ok {t:Tk}{i b:Nat}{ts2:List Tk}{out2:List PT}{r:PR}(hm:m≤4)(hp:PX n h P s (t::ts) d out)(hn:¬ (m=2∧1≤k))(hop:opA (m+1) (sg (t::ts))=some i)(hk:k<256)(hlen:out2.length≤1000000)
  (ih:∀ h,PX n h P s ts d out→Res (fnOf m) n h P s d (.ok b ts2 out2))
  (ih2:∀ h st,PX n h P s ts2 d (out2 ++ [nod (6+i) a b 0 t.pos])→At157 m P out2.length (k+1) h st→Res157 m n h P s d st r) {st:St} (hst:At157 m P a k h st):Res157 m n h P s d st r:=by
 obtain ⟨nn,env,h'⟩:=st;obtain ⟨rfl,rfl,e0,e1,e2,e3,e9,e10⟩:=hst;simp only at e0 e1 e2 e3 e9 e10 hp ⊢;have f1:=x125 (c:=157) hp rfl;have hcon:=fun hh=>c171 (c:=157) (lvS (m+1)) (sg (t::ts)) (lvS_len hm) hh rfl
 obtain ⟨h1,f2,g1,r1⟩:=x126 (c:=157) hp rfl rfl;obtain ⟨h2,q,g2,r2⟩:=ih h1 g1;have q2:=keepT (cc:=cx.at 157) (fn_cb (m:=m) (by omega)) (fn_md (by omega) 157) q
 obtain ⟨o1,o2,o3⟩:=(opA_idx hm (sg (t::ts))).1 i hop;have f4:=fun hh=>c172 (c:=157) (sg (t::ts)) hh rfl
 obtain ⟨h3,f3,g3,r3⟩:=x128 (c:=157) g2 hlen (nod (6+i) a b 0 t.pos) rfl;rw [o2] at f4;have b1:(k:Int)<lvM (m+1):=by
  have hM:=lvM_is hm;by_cases hm2:m=2
  · have:=hM.1 hm2; omega
  · have:=hM.2 hm2; omega
 have hi:(i:Int)≤13:=o2 ▸ (idx_le (l:=sgn)).2;clear ih q hn;simp only [noText] at o3;have key:∃ env',LB cx prim0 157 Tryz.f157 0 ⟨50,env,h'⟩=some (.norm,⟨50,env',h3⟩)∧At157 m P out2.length (k+1) h3 ⟨50,env',h3⟩:=by
  unfold At157;simp only [nod,prP,noText] at f3;generalize fnOf m=K at *;generalize lvS (m+1)=S at *;generalize lvM (m+1)=M at *;rw [LB_run nd157 rfl];simp -implicitDefEqProofs (disch:=omega) [e0,e1,e2,e3,e9,e10,f1,hcon,eqS,b1,o3,o1,f2,q2,f4,f3]
 obtain ⟨env',k1,k2⟩:=key;have k3:=ih2 h3 _ g3 k2
 cases r with
 | ok v ts4 out4 =>
  obtain ⟨st',j1,j2,j3,j4,j5⟩:=k3;exact ⟨st',by rw [loop_step,k1]; exact j1,j2,j3,j4,((r1.trans r2).trans r3).trans j5⟩
 | er p w =>
  obtain ⟨st',j1,j5⟩:=k3;exact ⟨st',by rw [loop_step,k1]; exact j1,((r1.trans r2).trans r3).trans j5⟩
end
section
variable {n:Nat}{h:H}{P:Nat}{s:ByteArray}{ts:List Tk}{d:Nat}{out:List PT}{m a k:Nat}
def arg157 (m P:Nat):List D:=[.ptr P 0 0 1,.func (.func (fnOf m)) [] [],.t (.int .i64 (lvM (m+1))),.t (.slice ((lvS (m+1)).map .str))]
def ResA (K:FuncId)(args:List D)(n:Nat)(h:H)(P:Nat)(s:ByteArray)(d:Nat):PR→Prop
 | .ok v ts2 out2=>∃ h',call cx prim0 K args h=some (.t (.int .i64 v),h')∧PX n h' P s ts2 d out2∧Fr n P h h'
 | .er p w=>∃ h',call cx prim0 K args h=some (.pan (fau p w),h')∧Fr n P h h'
theorem s157_er {p w:Int}(hm:m≤4)(ih:Res (fnOf m) n h P s d (.er p w)):ResA 157 (arg157 m P) n h P s d (.er p w):=by
 obtain ⟨h1,q,r1⟩:=ih;have q2:=panT (cc:=cx.at 157) (fn_cb (m:=m) (by omega)) (fn_md (by omega) 157) q
 refine ⟨h1,?_,r1⟩;unfold arg157;clear q;generalize fnOf m=K at *;generalize lvS (m+1)=S at *;generalize lvM (m+1)=M at *;rw [call_run (cx:=cx) rfl Tryz.func157 ok157 nd157 rfl (lbe rfl) rfl rfl];simp -implicitDefEqProofs (disch:=omega) [q2.1,q2.2]
theorem s157_ok {ts2:List Tk}{out2:List PT}{r:PR}(hm:m≤4)(ih:Res (fnOf m) n h P s d (.ok a ts2 out2))
  (ih2:∀ h st,PX n h P s ts2 d out2→At157 m P a 0 h st→Res157 m n h P s d st r):ResA 157 (arg157 m P) n h P s d r:=by
 obtain ⟨h1,q,g1,r1⟩:=ih;have q2:=keepT (cc:=cx.at 157) (fn_cb (m:=m) (by omega)) (fn_md (by omega) 157) q
 clear q
 cases r with
 | ok v ts4 out4 =>
  have lem:∀ st R,loopω (LB cx prim0 157 Tryz.f157 0) st=R→At157 m P a 0 h1 st→∃ st',R=some (.exit 0,st')∧st'.n=50∧st'.env 9 = .t (.int .i64 v)∧PX n st'.h P s ts4 d out4∧Fr n P h1 st'.h:=fun st R e hat=>by
   subst e;exact ih2 h1 st g1 hat
  unfold At157 at lem;unfold ResA arg157;clear ih2;generalize fnOf m=K at *;generalize lvS (m+1)=S at *;generalize lvM (m+1)=M at *;rw [call_run (cx:=cx) rfl Tryz.func157 ok157 nd157 rfl (lbe rfl) rfl rfl];simp -implicitDefEqProofs (disch:=omega) [q2];generalize hLp:loopω (LB cx prim0 157 Tryz.f157 0) _=R;obtain ⟨⟨nn,env,h3⟩,rfl,rfl,j3,j4,j5⟩:=lem _ _ hLp ⟨rfl,rfl,by simp,by simp,by simp,by simp,by simp,by simp⟩
  simp only at j3 j4 j5;simp -implicitDefEqProofs (disch:=omega) [j3];exact ⟨j4,r1.trans j5⟩
 | er p w =>
  have lem:∀ st R,loopω (LB cx prim0 157 Tryz.f157 0) st=R→At157 m P a 0 h1 st→∃ st',R=some (.pan (fau p w),st')∧Fr n P h1 st'.h:=fun st R e hat=>by
   subst e;exact ih2 h1 st g1 hat
  unfold At157 at lem;unfold ResA arg157;clear ih2;generalize fnOf m=K at *;generalize lvS (m+1)=S at *;generalize lvM (m+1)=M at *;rw [call_run (cx:=cx) rfl Tryz.func157 ok157 nd157 rfl (lbe rfl) rfl rfl];simp -implicitDefEqProofs (disch:=omega) [q2];generalize hLp:loopω (LB cx prim0 157 Tryz.f157 0) _=R;obtain ⟨⟨nn,env,h3⟩,rfl,j5⟩:=lem _ _ hLp ⟨rfl,rfl,by simp,by simp,by simp,by simp,by simp,by simp⟩
  simp only at j5;simp -implicitDefEqProofs (disch:=omega) [];exact r1.trans j5
theorem wr0 {r:PR}(ih:ResA 157 (arg157 0 P) n h P s d r):Res 205 n h P s d r:=by
 cases r with
 | ok v ts4 out4 =>
  obtain ⟨h1,q,g1,r1⟩:=ih;have q2:=keepT (cc:=cx.at 205) cb157 rfl q;refine ⟨h1,?_,g1,r1⟩;clear q;rw [call_run (cx:=cx) rfl Tryz.func205 ok205 nd205 rfl (lbe rfl) rfl rfl];simp only [arg157,fnOf,lvM,lvS,List.map_cons,List.map_nil] at q2;simp -implicitDefEqProofs (disch:=omega) [q2,litSliceD,List.replicate]
 | er p w =>
  obtain ⟨h1,q,r1⟩:=ih;have q2:=panT (cc:=cx.at 205) cb157 rfl q;refine ⟨h1,?_,r1⟩;clear q;rw [call_run (cx:=cx) rfl Tryz.func205 ok205 nd205 rfl (lbe rfl) rfl rfl];simp only [arg157,fnOf,lvM,lvS,List.map_cons,List.map_nil] at q2;simp -implicitDefEqProofs (disch:=omega) [q2.1,q2.2,litSliceD,List.replicate]
theorem wr1 {r:PR}(ih:ResA 157 (arg157 1 P) n h P s d r):Res 188 n h P s d r:=by
 cases r with
 | ok v ts4 out4 =>
  obtain ⟨h1,q,g1,r1⟩:=ih;have q2:=keepT (cc:=cx.at 188) cb157 rfl q;refine ⟨h1,?_,g1,r1⟩;clear q;rw [call_run (cx:=cx) rfl Tryz.func188 ok188 nd188 rfl (lbe rfl) rfl rfl];simp only [arg157,fnOf,lvM,lvS,List.map_cons,List.map_nil] at q2;simp -implicitDefEqProofs (disch:=omega) [q2,litSliceD,List.replicate]
 | er p w =>
  obtain ⟨h1,q,r1⟩:=ih;have q2:=panT (cc:=cx.at 188) cb157 rfl q;refine ⟨h1,?_,r1⟩;clear q;rw [call_run (cx:=cx) rfl Tryz.func188 ok188 nd188 rfl (lbe rfl) rfl rfl];simp only [arg157,fnOf,lvM,lvS,List.map_cons,List.map_nil] at q2;simp -implicitDefEqProofs (disch:=omega) [q2.1,q2.2,litSliceD,List.replicate]
theorem wr2 {r:PR}(ih:ResA 157 (arg157 2 P) n h P s d r):Res 173 n h P s d r:=by
 cases r with
 | ok v ts4 out4 =>
  obtain ⟨h1,q,g1,r1⟩:=ih;have q2:=keepT (cc:=cx.at 173) cb157 rfl q;refine ⟨h1,?_,g1,r1⟩;clear q;rw [call_run (cx:=cx) rfl Tryz.func173 ok173 nd173 rfl (lbe rfl) rfl rfl];simp only [arg157,fnOf,lvM,lvS,List.map_cons,List.map_nil] at q2;simp -implicitDefEqProofs (disch:=omega) [q2,litSliceD,List.replicate]
 | er p w =>
  obtain ⟨h1,q,r1⟩:=ih;have q2:=panT (cc:=cx.at 173) cb157 rfl q;refine ⟨h1,?_,r1⟩;clear q;rw [call_run (cx:=cx) rfl Tryz.func173 ok173 nd173 rfl (lbe rfl) rfl rfl];simp only [arg157,fnOf,lvM,lvS,List.map_cons,List.map_nil] at q2;simp -implicitDefEqProofs (disch:=omega) [q2.1,q2.2,litSliceD,List.replicate]
theorem wr3 {r:PR}(ih:ResA 157 (arg157 3 P) n h P s d r):Res 158 n h P s d r:=by
 cases r with
 | ok v ts4 out4 =>
  obtain ⟨h1,q,g1,r1⟩:=ih;have q2:=keepT (cc:=cx.at 158) cb157 rfl q;refine ⟨h1,?_,g1,r1⟩;clear q;rw [call_run (cx:=cx) rfl Tryz.func158 ok158 nd158 rfl (lbe rfl) rfl rfl];simp only [arg157,fnOf,lvM,lvS,List.map_cons,List.map_nil] at q2;simp -implicitDefEqProofs (disch:=omega) [q2,litSliceD,List.replicate]
 | er p w =>
  obtain ⟨h1,q,r1⟩:=ih;have q2:=panT (cc:=cx.at 158) cb157 rfl q;refine ⟨h1,?_,r1⟩;clear q;rw [call_run (cx:=cx) rfl Tryz.func158 ok158 nd158 rfl (lbe rfl) rfl rfl];simp only [arg157,fnOf,lvM,lvS,List.map_cons,List.map_nil] at q2;simp -implicitDefEqProofs (disch:=omega) [q2.1,q2.2,litSliceD,List.replicate]
theorem wr4 {r:PR}(ih:ResA 157 (arg157 4 P) n h P s d r):Res 124 n h P s d r:=by
 cases r with
 | ok v ts4 out4 =>
  obtain ⟨h1,q,g1,r1⟩:=ih;have q2:=keepT (cc:=cx.at 124) cb157 rfl q;refine ⟨h1,?_,g1,r1⟩;clear q;rw [call_run (cx:=cx) rfl Tryz.func124 ok124 nd124 rfl (lbe rfl) rfl rfl];simp only [arg157,fnOf,lvM,lvS,List.map_cons,List.map_nil] at q2;simp -implicitDefEqProofs (disch:=omega) [q2,litSliceD,List.replicate]
 | er p w =>
  obtain ⟨h1,q,r1⟩:=ih;have q2:=panT (cc:=cx.at 124) cb157 rfl q;refine ⟨h1,?_,r1⟩;clear q;rw [call_run (cx:=cx) rfl Tryz.func124 ok124 nd124 rfl (lbe rfl) rfl rfl];simp only [arg157,fnOf,lvM,lvS,List.map_cons,List.map_nil] at q2;simp -implicitDefEqProofs (disch:=omega) [q2.1,q2.2,litSliceD,List.replicate]
theorem wr {r:PR}(hm:m≤4)(ih:ResA 157 (arg157 m P) n h P s d r):Res (fnOf (m+1)) n h P s d r:=by
 have:m=0∨m=1∨m=2∨m=3∨m=4:=by omega
 rcases this with rfl|rfl|rfl|rfl|rfl
 · exact wr0 ih
 · exact wr1 ih
 · exact wr2 ih
 · exact wr3 ih
 · exact wr4 ih
end
section
variable {n:Nat}{h:H}{P:Nat}{s:ByteArray}{ts:List Tk}{d:Nat}{out:List PT}{a b c:Nat}{t t3:Tk}{ts2 ts3 ts4:List Tk}{out2 out3 out4:List PT}{p w:Int}
theorem s75_er (ih:Res 124 n h P s d (.er p w)):Res 75 n h P s d (.er p w):=by
 obtain ⟨h1,q,r1⟩:=ih;have q2:=panT (cc:=cx.at 75) cb124 rfl q;refine ⟨h1,?_,r1⟩;clear q;rw [call_run (cx:=cx) rfl Tryz.func75 ok75 nd75 rfl (lbe rfl) rfl rfl];simp -implicitDefEqProofs (disch:=omega) [q2.1,q2.2]
theorem s75_no (ih:Res 124 n h P s d (.ok a ts2 out2))(hy:sg ts2≠bAsk):Res 75 n h P s d (.ok a ts2 out2):=by
 obtain ⟨h1,q,g1,r1⟩:=ih;have q2:=keepT (cc:=cx.at 75) cb124 rfl q;have f1:=x125 (c:=75) g1 rfl;refine ⟨h1,?_,g1,r1⟩;clear q;simp only [bAsk] at hy;rw [call_run (cx:=cx) rfl Tryz.func75 ok75 nd75 rfl (lbe rfl) rfl rfl];simp -implicitDefEqProofs (disch:=omega) [q2,f1,eqS,hy]
theorem s75_deep (ih:Res 124 n h P s d (.ok a (t::ts2) out2))(hy:sg (t::ts2)=bAsk)(hd:16≤d)(hd2:d≤1000):Res 75 n h P s d (.er t.pos 134):=by
 obtain ⟨h1,q,g1,r1⟩:=ih;have q2:=keepT (cc:=cx.at 75) cb124 rfl q;have f1:=x125 (c:=75) g1 rfl;obtain ⟨h2,f2,g2,r2⟩:=x126 (c:=75) g1 hy rfl;obtain ⟨h3,f3,f3',r3⟩:=x127_no (c:=75) g2 hd hd2 t.pos rfl;refine ⟨h3,?_,(r1.trans r2).trans r3⟩;clear q;simp only [bAsk] at hy f2;rw [call_run (cx:=cx) rfl Tryz.func75 ok75 nd75 rfl (lbe rfl) rfl rfl];simp -implicitDefEqProofs (disch:=omega) [q2,f1,eqS,hy,f2,f3,f3']
theorem s75_b (ih:Res 124 n h P s d (.ok a (t::ts2) out2))(hy:sg (t::ts2)=bAsk)(hd:d<16)(ih2:∀ h,PX n h P s ts2 (d+1) out2→Res 75 n h P s (d+1) (.er p w)):Res 75 n h P s d (.er p w):=by
 obtain ⟨h1,q,g1,r1⟩:=ih;have q2:=keepT (cc:=cx.at 75) cb124 rfl q;have f1:=x125 (c:=75) g1 rfl;obtain ⟨h2,f2,g2,r2⟩:=x126 (c:=75) g1 hy rfl;obtain ⟨h3,f3,g3,r3⟩:=x127 (c:=75) g2 hd t.pos rfl;obtain ⟨h4,q3,r4⟩:=ih2 h3 g3;have q4:=panT (cc:=cx.at 75) cb75 rfl q3;refine ⟨h4,?_,((r1.trans r2).trans r3).trans r4⟩;clear q q3;simp only [bAsk] at hy f2;rw [call_run (cx:=cx) rfl Tryz.func75 ok75 nd75 rfl (lbe rfl) rfl rfl];simp -implicitDefEqProofs (disch:=omega) [q2,f1,eqS,hy,f2,f3,q4.1,q4.2]
theorem s75_cl (ih:Res 124 n h P s d (.ok a (t::ts2) out2))(hy:sg (t::ts2)=bAsk)(hd:d<16)(ih2:∀ h,PX n h P s ts2 (d+1) out2→Res 75 n h P s (d+1) (.ok b ts3 out3))(hc:sg ts3≠bColon):Res 75 n h P s d (.er (plc s.size ts3) 131):=by
 obtain ⟨h1,q,g1,r1⟩:=ih;have q2:=keepT (cc:=cx.at 75) cb124 rfl q;have f1:=x125 (c:=75) g1 rfl;obtain ⟨h2,f2,g2,r2⟩:=x126 (c:=75) g1 hy rfl;obtain ⟨h3,f3,g3,r3⟩:=x127 (c:=75) g2 hd t.pos rfl;obtain ⟨h4,q3,g4,r4⟩:=ih2 h3 g3;have q4:=keepT (cc:=cx.at 75) cb75 rfl q3;have f5:=x126_no (c:=75) g4 hc rfl;refine ⟨h4,?_,((r1.trans r2).trans r3).trans r4⟩;clear q q3;simp only [bAsk] at hy f2;simp only [bColon] at f5;rw [call_run (cx:=cx) rfl Tryz.func75 ok75 nd75 rfl (lbe rfl) rfl rfl];simp -implicitDefEqProofs (disch:=omega) [q2,f1,eqS,hy,f2,f3,q4,f5.1,f5.2]
theorem s75_c (ih:Res 124 n h P s d (.ok a (t::ts2) out2))(hy:sg (t::ts2)=bAsk)(hd:d<16)(ih2:∀ h,PX n h P s ts2 (d+1) out2→Res 75 n h P s (d+1) (.ok b (t3::ts3) out3))(hc:sg (t3::ts3)=bColon)
  (ih3:∀ h,PX n h P s ts3 (d+1) out3→Res 75 n h P s (d+1) (.er p w)):Res 75 n h P s d (.er p w):=by
 obtain ⟨h1,q,g1,r1⟩:=ih;have q2:=keepT (cc:=cx.at 75) cb124 rfl q;have f1:=x125 (c:=75) g1 rfl;obtain ⟨h2,f2,g2,r2⟩:=x126 (c:=75) g1 hy rfl;obtain ⟨h3,f3,g3,r3⟩:=x127 (c:=75) g2 hd t.pos rfl;obtain ⟨h4,q3,g4,r4⟩:=ih2 h3 g3;have q4:=keepT (cc:=cx.at 75) cb75 rfl q3;obtain ⟨h5,f5,g5,r5⟩:=x126 (c:=75) g4 hc rfl;obtain ⟨h6,q5,r6⟩:=ih3 h5 g5;have q6:=panT (cc:=cx.at 75) cb75 rfl q5;refine ⟨h6,?_,((((r1.trans r2).trans r3).trans r4).trans r5).trans r6⟩;clear q q3 q5;simp only [bAsk] at hy f2;simp only [bColon] at f5;rw [call_run (cx:=cx) rfl Tryz.func75 ok75 nd75 rfl (lbe rfl) rfl rfl];simp -implicitDefEqProofs (disch:=omega) [q2,f1,eqS,hy,f2,f3,q4,f5,q6.1,q6.2]
theorem s75_ok (ih:Res 124 n h P s d (.ok a (t::ts2) out2))(hy:sg (t::ts2)=bAsk)(hd:d<16)(ih2:∀ h,PX n h P s ts2 (d+1) out2→Res 75 n h P s (d+1) (.ok b (t3::ts3) out3))(hc:sg (t3::ts3)=bColon)
  (ih3:∀ h,PX n h P s ts3 (d+1) out3→Res 75 n h P s (d+1) (.ok c ts4 out4)) (hlen:out4.length≤1000000):Res 75 n h P s d (.ok out4.length ts4 (out4 ++ [nod 19 a b c t.pos])):=by
 obtain ⟨h1,q,g1,r1⟩:=ih;have q2:=keepT (cc:=cx.at 75) cb124 rfl q;have f1:=x125 (c:=75) g1 rfl;obtain ⟨h2,f2,g2,r2⟩:=x126 (c:=75) g1 hy rfl;obtain ⟨h3,f3,g3,r3⟩:=x127 (c:=75) g2 hd t.pos rfl;obtain ⟨h4,q3,g4,r4⟩:=ih2 h3 g3;have q4:=keepT (cc:=cx.at 75) cb75 rfl q3;obtain ⟨h5,f5,g5,r5⟩:=x126 (c:=75) g4 hc rfl;obtain ⟨h6,q5,g6,r6⟩:=ih3 h5 g5;have q6:=keepT (cc:=cx.at 75) cb75 rfl q5;obtain ⟨x,o,hx,ho,k⟩:=g6.get;have f7:=ps_2 ho (Slice.cells hx);have f8:=ps_s2 ho (Slice.cells hx) d;obtain ⟨g7,r7⟩:=k x ts4 d hx;obtain ⟨h8,f9,g8,r8⟩:=x128 (c:=75) g7 hlen (nod 19 a b c t.pos) rfl;refine ⟨h8,?_,g8,((((((r1.trans r2).trans r3).trans r4).trans r5).trans r6).trans r7).trans r8⟩;clear q q3 q5 k;simp only [bAsk] at hy f2;simp only [bColon] at f5;simp only [nod,prP,noText] at f9;have e1:(d:Int)+1-1=d:=by omega
 rw [call_run (cx:=cx) rfl Tryz.func75 ok75 nd75 rfl (lbe rfl) rfl rfl];simp -implicitDefEqProofs (disch:=omega) [-storeD,-nilCheckD,-fieldAddrD,-load_ptr,q2,f1,eqS,hy,f2,f3,q4,f5,q6,ps_nil ho,ps_f2 ho,f7,f8,e1,f9]
end
section
variable {n:Nat}{h:H}{P:Nat}{s:ByteArray}{ts:List Tk}{d:Nat}{out:List PT}{r:PR}{t:Tk}{ts2:List Tk}{out2:List PT}{p w:Int}{v:Nat}{op:Int}
theorem PX.keep {h':H}(hp:PX n h P s ts d out)(hn:h.next≤h'.next)(hm:h'.marks=h.marks)(ho:∀ id,id<h.next→h'.objs id=h.objs id):PX n h' P s ts d out∧Fr n P h h':=by
 obtain ⟨h1,h2,h3,x,o,hx,hd,h5⟩:=hp;refine ⟨⟨h1,by omega,by rw [hm,h3],x,o,hx,by rw [ho P h2,hd],?_⟩,Fr.of hd (Slice.cells hx) (by rw [ho P h2,hd]) (Slice.cells hx) h1 hn hm (by omega) (fun j a1 a2 a3=>ho j a1) (fun j l k c=>?_) (fun j l k hj c=>⟨l,k,c⟩)⟩
 rotate_left
 · rcases h5 with ⟨e,_⟩|⟨id,g1,g2,e,g3⟩
   · rw [e] at c; cases c
   · rw [e] at c; cases c; exact g1
 rcases h5 with h5|⟨id,g1,g2,rfl,g3⟩
 · exact .inl h5
 · exact .inr ⟨id,g1,by omega,rfl,by rw [ho id g2,g3]⟩
theorem PX.map1 (hp:PX n h P s ts d out)(w w':AObj):PX n ((h.push w).set h.next w') P s ts d out∧Fr n P h ((h.push w).set h.next w') :=
 hp.keep (by simp) rfl fun id hid=>by simp [show ¬ (id=h.next) by omega]
def mapH (h:H):H:=(h.push (.map [] 0)).set h.next (.map [(.str ⟨#[45]⟩,.t (.int .i64 3),0),(.str ⟨#[33]⟩,.t (.int .i64 4),1)] 2)
theorem negA_no {x:ByteArray}(h:negA x=none):eqS x ⟨#[45]⟩=false∧eqS x ⟨#[33]⟩=false:=by
 unfold negA bMinus bNot at h;by_cases h1:x=⟨#[45]⟩
 · rw [if_pos h1] at h; cases h
 by_cases h2:x=⟨#[33]⟩
 · rw [if_neg h1,if_pos h2] at h; cases h
 · exact ⟨by simp [eqS,h1],by simp [eqS,h2]⟩
theorem negA_some {x:ByteArray}(h:negA x=some op):(x=⟨#[45]⟩∧op=3)∨(x=⟨#[33]⟩∧op=4):=by
 unfold negA bMinus bNot at h;by_cases h1:x=⟨#[45]⟩
 · rw [if_pos h1] at h; cases h; exact .inl ⟨h1,rfl⟩
 by_cases h2:x=⟨#[33]⟩
 · rw [if_neg h1,if_pos h2] at h; cases h; exact .inr ⟨h2,rfl⟩
 · rw [if_neg h1,if_neg h2] at h; cases h
theorem eqS1:eqS ⟨#[33]⟩ ⟨#[45]⟩=false:=by decide
theorem eqS2:eqS ⟨#[45]⟩ ⟨#[45]⟩=true:=by decide
theorem eqS3:eqS ⟨#[33]⟩ ⟨#[33]⟩=true:=by decide
theorem s215_no (hp:PX n h P s ts d out)(hy:negA (sg ts)=none)(ih:∀ h,PX n h P s ts d out→Res 226 n h P s d r):Res 215 n h P s d r:=by
 obtain ⟨hp2,r0⟩:=hp.map1 (.map [] 0) (.map [(.str ⟨#[45]⟩,.t (.int .i64 3),0),(.str ⟨#[33]⟩,.t (.int .i64 4),1)] 2);have f1:=x125 (c:=215) hp2 rfl;obtain ⟨g1,g2⟩:=negA_no hy;have k:=ih _ hp2
 cases r with
 | ok v ts2 out2 =>
  obtain ⟨h1,q,g3,r1⟩:=k;have q2:=keepT (cc:=cx.at 215) cb226 rfl q;refine ⟨h1,?_,g3,r0.trans r1⟩;clear q;rw [call_run (cx:=cx) rfl Tryz.func215 ok215 nd215 rfl (lbe rfl) rfl rfl];simp -implicitDefEqProofs (disch:=omega) [makeMapD,mapUpdateD,lookupD,okD,findT,keyEq,isKeyT,TK.isKey,H.may,md,eqS1,f1,g1,g2,q2]
 | er p w =>
  obtain ⟨h1,q,r1⟩:=k;have q2:=panT (cc:=cx.at 215) cb226 rfl q;refine ⟨h1,?_,r0.trans r1⟩;clear q;rw [call_run (cx:=cx) rfl Tryz.func215 ok215 nd215 rfl (lbe rfl) rfl rfl];simp -implicitDefEqProofs (disch:=omega) [makeMapD,mapUpdateD,lookupD,okD,findT,keyEq,isKeyT,TK.isKey,H.may,md,eqS1,f1,g1,g2,q2.1,q2.2]
theorem s215_deep (hp:PX n h P s (t::ts) d out)(hy:negA (sg (t::ts))=some op)(hd:16≤d)(hd2:d≤1000):Res 215 n h P s d (.er t.pos 134):=by
 obtain ⟨hp2,r0⟩:=hp.map1 (.map [] 0) (.map [(.str ⟨#[45]⟩,.t (.int .i64 3),0),(.str ⟨#[33]⟩,.t (.int .i64 4),1)] 2);have f1:=x125 (c:=215) hp2 rfl;obtain ⟨h2,f2,g2,r2⟩:=x126 (c:=215) hp2 rfl rfl;obtain ⟨h3,f3,f3',r3⟩:=x127_no (c:=215) g2 hd hd2 t.pos rfl;refine ⟨h3,?_,(r0.trans r2).trans r3⟩;rw [call_run (cx:=cx) rfl Tryz.func215 ok215 nd215 rfl (lbe rfl) rfl rfl];rcases negA_some hy with ⟨e,rfl⟩|⟨e,rfl⟩<;>rw [e] at f1 f2 <;>
  simp -implicitDefEqProofs (disch:=omega) [makeMapD,mapUpdateD,lookupD,okD,findT,keyEq,isKeyT,TK.isKey,H.may,md,eqS1,eqS2,eqS3,f1,f2,f3,f3']
theorem s215_er (hp:PX n h P s (t::ts) d out)(hy:negA (sg (t::ts))=some op)(hd:d<16)(ih:∀ h,PX n h P s ts (d+1) out→Res 215 n h P s (d+1) (.er p w)):Res 215 n h P s d (.er p w):=by
 obtain ⟨hp2,r0⟩:=hp.map1 (.map [] 0) (.map [(.str ⟨#[45]⟩,.t (.int .i64 3),0),(.str ⟨#[33]⟩,.t (.int .i64 4),1)] 2);have f1:=x125 (c:=215) hp2 rfl;obtain ⟨h2,f2,g2,r2⟩:=x126 (c:=215) hp2 rfl rfl;obtain ⟨h3,f3,g3,r3⟩:=x127 (c:=215) g2 hd t.pos rfl;obtain ⟨h4,q,r4⟩:=ih h3 g3;have q2:=panT (cc:=cx.at 215) cb215 rfl q;refine ⟨h4,?_,((r0.trans r2).trans r3).trans r4⟩;clear q;rw [call_run (cx:=cx) rfl Tryz.func215 ok215 nd215 rfl (lbe rfl) rfl rfl];rcases negA_some hy with ⟨e,rfl⟩|⟨e,rfl⟩<;>rw [e] at f1 f2 <;>
  simp -implicitDefEqProofs (disch:=omega) [makeMapD,mapUpdateD,lookupD,okD,findT,keyEq,isKeyT,TK.isKey,H.may,md,eqS1,eqS2,eqS3,f1,f2,f3,q2.1,q2.2]
theorem s215_ok (hp:PX n h P s (t::ts) d out)(hy:negA (sg (t::ts))=some op)(hd:d<16)(ih:∀ h,PX n h P s ts (d+1) out→Res 215 n h P s (d+1) (.ok v ts2 out2))(hlen:out2.length≤1000000) :
  Res 215 n h P s d (.ok out2.length ts2 (out2 ++ [nod op v 0 0 t.pos])):=by
 obtain ⟨hp2,r0⟩:=hp.map1 (.map [] 0) (.map [(.str ⟨#[45]⟩,.t (.int .i64 3),0),(.str ⟨#[33]⟩,.t (.int .i64 4),1)] 2);have f1:=x125 (c:=215) hp2 rfl;obtain ⟨h2,f2,g2,r2⟩:=x126 (c:=215) hp2 rfl rfl;obtain ⟨h3,f3,g3,r3⟩:=x127 (c:=215) g2 hd t.pos rfl;obtain ⟨h4,q,g4,r4⟩:=ih h3 g3;have q2:=keepT (cc:=cx.at 215) cb215 rfl q;obtain ⟨x,o,hx,ho,k⟩:=g4.get;have f7:=ps_2 ho (Slice.cells hx);have f8:=ps_s2 ho (Slice.cells hx) d;obtain ⟨g7,r7⟩:=k x ts2 d hx;obtain ⟨h8,f9,g8,r8⟩:=x128 (c:=215) g7 hlen (nod op v 0 0 t.pos) rfl;refine ⟨h8,?_,g8,((((r0.trans r2).trans r3).trans r4).trans r7).trans r8⟩;clear q k;simp only [nod,prP,noText] at f9;have e1:(d:Int)+1-1=d:=by omega
 rw [call_run (cx:=cx) rfl Tryz.func215 ok215 nd215 rfl (lbe rfl) rfl rfl];rcases negA_some hy with ⟨e,rfl⟩|⟨e,rfl⟩<;>rw [e] at f1 f2 <;>
  simp -implicitDefEqProofs (disch:=omega) [-storeD,-nilCheckD,-fieldAddrD,-load_ptr,makeMapD,mapUpdateD,lookupD,okD,findT,keyEq,isKeyT,TK.isKey,H.may,md,eqS1,eqS2,eqS3,f1,f2,f3,q2,ps_nil ho,ps_f2 ho,f7,f8,e1,f9]
end
section
variable {h:H}{id:Nat}{t:Tk}{p:PT}
theorem kf0 (ho:h.objs id=some (.row 134 4 [.t (Tk.t t)])):fieldAddrD Tryz.prog h 134 (.ptr id 0 0 1) 0=some (.ptr id 0 0 1):=by simp [ho]
theorem kf1 (ho:h.objs id=some (.row 134 4 [.t (Tk.t t)])):fieldAddrD Tryz.prog h 134 (.ptr id 0 0 1) 1=some (.ptr id 0 1 1):=by simp [ho]
theorem kf2 (ho:h.objs id=some (.row 134 4 [.t (Tk.t t)])):fieldAddrD Tryz.prog h 134 (.ptr id 0 0 1) 2=some (.ptr id 0 2 1):=by simp [ho]
theorem kf3 (ho:h.objs id=some (.row 134 4 [.t (Tk.t t)])):fieldAddrD Tryz.prog h 134 (.ptr id 0 0 1) 3=some (.ptr id 0 3 1):=by simp [ho]
theorem kl0 (ho:h.objs id=some (.row 134 4 [.t (Tk.t t)])):loadD Tryz.prog h 3 (.ptr id 0 0 1)=some (.t (.int .i64 t.kind)):=by simp [ho,Tk.t]
theorem kl1 (ho:h.objs id=some (.row 134 4 [.t (Tk.t t)])):loadD Tryz.prog h 9 (.ptr id 0 1 1)=some (.t (.str t.text)):=by simp [ho,Tk.t]
theorem kl2 (ho:h.objs id=some (.row 134 4 [.t (Tk.t t)])):loadD Tryz.prog h 2 (.ptr id 0 2 1)=some (.t (.int .i64 t.n)):=by simp [ho,Tk.t]
theorem kl3 (ho:h.objs id=some (.row 134 4 [.t (Tk.t t)])):loadD Tryz.prog h 3 (.ptr id 0 3 1)=some (.t (.int .i64 t.pos)):=by simp [ho,Tk.t]
section
variable {k a b c vk vn pos:Int}{s nm:ByteArray}(ho:h.objs id=some (.row 57 9 [.t (prt k a b c vk vn s nm pos)]))
include ho
theorem pf0:fieldAddrD Tryz.prog h 57 (.ptr id 0 0 1) 0=some (.ptr id 0 0 1):=by simp [ho]
theorem pf1:fieldAddrD Tryz.prog h 57 (.ptr id 0 0 1) 1=some (.ptr id 0 1 1):=by simp [ho]
theorem pf4:fieldAddrD Tryz.prog h 57 (.ptr id 0 0 1) 4=some (.ptr id 0 4 1):=by simp [ho]
theorem pf5:fieldAddrD Tryz.prog h 57 (.ptr id 0 0 1) 5=some (.ptr id 0 7 1):=by simp [ho]
theorem pl:loadD Tryz.prog h 57 (.ptr id 0 0 1)=some (.t (prt k a b c vk vn s nm pos)):=by simp [ho]
theorem pst0 (v:Int):storeD Tryz.prog h 3 (.ptr id 0 0 1) (.t (.int .i64 v))=some (h.set id (.row 57 9 [.t (prt v a b c vk vn s nm pos)])):=by
 simp [ho]
theorem pst1 (v:Int):storeD Tryz.prog h 3 (.ptr id 0 1 1) (.t (.int .i64 v))=some (h.set id (.row 57 9 [.t (prt k v b c vk vn s nm pos)])):=by
 simp [ho]
theorem pst4 (x y:Int)(z:ByteArray):storeD Tryz.prog h 26 (.ptr id 0 4 1) (.t (.agg [.int .i64 x,.int .i64 y,.str z]))=some (h.set id (.row 57 9 [.t (prt k a b c x y z nm pos)])):=by
 simp [ho]
theorem pst5 (z:ByteArray):storeD Tryz.prog h 9 (.ptr id 0 7 1) (.t (.str z))=some (h.set id (.row 57 9 [.t (prt k a b c vk vn s z pos)])):=by
 simp [ho]
end
theorem kst {a b c:Int}{e:ByteArray}(ho:h.objs id=some (.row 134 4 [.t (.agg [.int .i64 a,.str e,.int .i64 b,.int .i64 c])])):storeD Tryz.prog h 134 (.ptr id 0 0 1) (.t (Tk.t t))=some (h.set id (.row 134 4 [.t (Tk.t t)])):=by
 simp [ho,Tk.t]
theorem pst {k a b c vk vn pos:Int}{s nm:ByteArray}(ho:h.objs id=some (.row 57 9 [.t (prt k a b c vk vn s nm pos)]))(k' a' b' c' vk' vn' pos':Int)(s' nm':ByteArray) :
  storeD Tryz.prog h 57 (.ptr id 0 0 1) (.t (prt k' a' b' c' vk' vn' s' nm' pos'))=some (h.set id (.row 57 9 [.t (prt k' a' b' c' vk' vn' s' nm' pos')])):=by
 simp [ho]
end
theorem y236t:snapEnd (callQ cx okT prim0 1000 236 [.t (.str ⟨#[116,114,117,101]⟩)] .empty)=some (.tup [.t (.agg [.int .i64 2,.int .i64 1,.str ⟨#[]⟩]),.t (.bool true)]):=by kernel_rfl
theorem y236f:snapEnd (callQ cx okT prim0 1000 236 [.t (.str ⟨#[102,97,108,115,101]⟩)] .empty)=some (.tup [.t (.agg [.int .i64 2,.int .i64 0,.str ⟨#[]⟩]),.t (.bool true)]):=by kernel_rfl
theorem c236t (h:H):callD (cx.at 226) (call cx prim0) 236 [.t (.str ⟨#[116,114,117,101]⟩)] h=some (.tup [.t (.agg [.int .i64 2,.int .i64 1,.str ⟨#[]⟩]),.t (.bool true)],h) :=
 pureQ (cx:=cx) okQ (c:=226) cb236 rfl y236t h rfl
theorem c236f (h:H):callD (cx.at 226) (call cx prim0) 236 [.t (.str ⟨#[102,97,108,115,101]⟩)] h=some (.tup [.t (.agg [.int .i64 2,.int .i64 0,.str ⟨#[]⟩]),.t (.bool true)],h) :=
 pureQ (cx:=cx) okQ (c:=226) cb236 rfl y236f h rfl
theorem tlw (h:H)(t:Tk):loadD Tryz.prog h 134 (.eptr (Tk.t t) 0)=some (.t (Tk.t t)):=by simp [Tk.t]
theorem deq {a b:ByteArray}(h:a≠b):eqS a b=false:=by simp [eqS,h]
theorem deq' {a:ByteArray}:eqS a a=true:=by simp [eqS]
section
variable {n:Nat}{h:H}{P:Nat}{s:ByteArray}{ts:List Tk}{d:Nat}{out:List PT}{r:PR}{t:Tk}{ts2:List Tk}{out2:List PT}{p w:Int}{v:Nat}{op:Int}
theorem PX.set1 {id:Nat}(hp:PX n h P s ts d out){H2:H}{w w2:AObj}(hH2:H2=(h.push w).set h.next w2)(w3:AObj):PX n (H2.set h.next w3) P s ts d out∧Fr n P h (H2.set h.next w3) :=
 hp.keep (by rw [hH2]; simp) (by rw [hH2]; rfl) fun id hid=>by rw [hH2]; simp [show ¬ (id=h.next) by omega]
theorem s226_num (hp:PX n h P s (t::ts) d out)(hk:t.kind=1)(hlen:out.length≤1000000):Res 226 n h P s d (.ok out.length ts (out ++ [⟨1,0,0,0,1,t.n,noText,noText,t.pos⟩])):=by
 obtain ⟨x,o,hx,ho,k⟩:=hp.get;obtain rfl:=slice_cons hx;have f1:=ps_1 ho ⟨_,hx⟩;have g1:=ps_nil ho;have g2:=ps_f1 ho;have hPn:P<h.next:=hp.2.1
 have e1:=kst (h:=h.push (.row 134 4 [.t (.agg [.int .i64 0,.str ⟨#[]⟩,.int .i64 0,.int .i64 0])])) (id:=h.next) (t:=t) (a:=0) (b:=0) (c:=0) (e:=⟨#[]⟩) (by simp)
 obtain ⟨H1,hH1⟩:∃ H1,H1=(h.push (.row 134 4 [.t (.agg [.int .i64 0,.str ⟨#[]⟩,.int .i64 0,.int .i64 0])])).set h.next (.row 134 4 [.t (Tk.t t)]):=⟨_,rfl⟩
 rw [←hH1] at e1;have n1:H1.next=h.next+1:=by rw [hH1]; simp
 have a1:H1.objs h.next=some (.row 134 4 [.t (Tk.t t)]):=by rw [hH1]; simp
 obtain ⟨p1,r1⟩:PX n H1 P s (t::ts) d out∧Fr n P h H1:=by rw [hH1]; exact hp.map1 _ _
 have e2:=pst (h:=H1.push (.row 57 9 [.t (prt 0 0 0 0 0 0 ⟨#[]⟩ ⟨#[]⟩ 0)])) (id:=H1.next) (k:=0) (a:=0) (b:=0) (c:=0) (vk:=0) (vn:=0) (pos:=0) (s:=⟨#[]⟩) (nm:=⟨#[]⟩) (by simp) 1 0 0 0 0 0 t.pos ⟨#[]⟩ ⟨#[]⟩
 obtain ⟨H2,hH2⟩:∃ H2,H2=(H1.push (.row 57 9 [.t (prt 0 0 0 0 0 0 ⟨#[]⟩ ⟨#[]⟩ 0)])).set H1.next (.row 57 9 [.t (prt 1 0 0 0 0 0 ⟨#[]⟩ ⟨#[]⟩ t.pos)]):=⟨_,rfl⟩
 rw [←hH2] at e2;have b2:H2.objs H1.next=some (.row 57 9 [.t (prt 1 0 0 0 0 0 ⟨#[]⟩ ⟨#[]⟩ t.pos)]):=by rw [hH2]; simp
 have a2:H2.objs h.next=some (.row 134 4 [.t (Tk.t t)]):=by rw [hH2]; simp [a1,show ¬ (h.next=H1.next) by omega]
 have k0:=kl0 a2;have k1:=kl1 a2;have k2:=kl2 a2;have k3:=kl3 a1;have j0:=kf0 a2;have j1:=kf1 a2;have j2:=kf2 a2;have j3:=kf3 a1;have m0:=pst4 b2 1 t.n ⟨#[]⟩;have mf0:=pf4 b2;have hb0:(H2.set H1.next (.row 57 9 [.t (prt 1 0 0 0 1 t.n ⟨#[]⟩ ⟨#[]⟩ t.pos)])).objs H1.next=some (.row 57 9 [.t (prt 1 0 0 0 1 t.n ⟨#[]⟩ ⟨#[]⟩ t.pos)]):=by simp
 obtain ⟨H3,hH3⟩:∃ H3,H3=(H2.set H1.next (.row 57 9 [.t (prt 1 0 0 0 1 t.n ⟨#[]⟩ ⟨#[]⟩ t.pos)])):=⟨_,rfl⟩
 rw [←hH3] at m0;obtain ⟨p3,r3⟩:PX n H3 P s (t::ts) d out∧Fr n P H1 H3:=by rw [hH3]; exact p1.set1 (id:=0) hH2 _
 have b3:H3.objs H1.next=some (.row 57 9 [.t (prt 1 0 0 0 1 t.n ⟨#[]⟩ ⟨#[]⟩ t.pos)]):=by rw [hH3]; simp
 obtain ⟨x3,o3,hx3,ho3,kk⟩:=p3.get;obtain rfl:=slice_cons hx3;have g3:=ps_1 ho3 ⟨_,hx3⟩;have g4:=ps_nil ho3;have g5:=ps_f1 ho3;have g6:=ps_s1 ho3 (Slice.cells hx3) (y:=.slice (ts.map Tk.t)) rfl;obtain ⟨p4,r4⟩:=kk (.slice (ts.map Tk.t)) ts d (.inr rfl);have b4:(H3.set P (psO s (.slice (ts.map Tk.t)) d o3)).objs H1.next=some (.row 57 9 [.t (prt 1 0 0 0 1 t.n ⟨#[]⟩ ⟨#[]⟩ t.pos)]):=by simp [b3,show ¬ (H1.next=P) by omega]
 have g7:=pl b4;obtain ⟨h8,f9,g8,r8⟩:=x128 (c:=226) p4 hlen ⟨1,0,0,0,1,t.n,noText,noText,t.pos⟩ rfl;refine ⟨h8,?_,g8,((r1.trans r3).trans r4).trans r8⟩;simp only [prP,noText] at f9;have sl':=fun h=>sl_tk h t ts
 simp only [List.map_cons] at sl';clear k kk hp p1 p3 p4 r1 r3 r4 r8 g8 hx hx3 ho ho3 a1 a2 b2 b3 b4 hH3;rw [call_run (cx:=cx) rfl Tryz.func226 ok226 nd226 rfl (lbe rfl) rfl rfl];simp -implicitDefEqProofs (disch:=omega) [-storeD,-nilCheckD,-fieldAddrD,-load_ptr,-load_eptr,f1,g1,g2,tkl,tlw,md,e1,e2,k0,k1,k2,k3,j0,j1,j2,j3,g3,g4,g5,g6,g7,sl',f9,hk,m0,mf0]
theorem s226_text (hp:PX n h P s (t::ts) d out)(hk:t.kind=2)(hlen:out.length≤1000000):Res 226 n h P s d (.ok out.length ts (out ++ [⟨1,0,0,0,3,0,t.text,noText,t.pos⟩])):=by
 obtain ⟨x,o,hx,ho,k⟩:=hp.get;obtain rfl:=slice_cons hx;have f1:=ps_1 ho ⟨_,hx⟩;have g1:=ps_nil ho;have g2:=ps_f1 ho;have hPn:P<h.next:=hp.2.1
 have e1:=kst (h:=h.push (.row 134 4 [.t (.agg [.int .i64 0,.str ⟨#[]⟩,.int .i64 0,.int .i64 0])])) (id:=h.next) (t:=t) (a:=0) (b:=0) (c:=0) (e:=⟨#[]⟩) (by simp)
 obtain ⟨H1,hH1⟩:∃ H1,H1=(h.push (.row 134 4 [.t (.agg [.int .i64 0,.str ⟨#[]⟩,.int .i64 0,.int .i64 0])])).set h.next (.row 134 4 [.t (Tk.t t)]):=⟨_,rfl⟩
 rw [←hH1] at e1;have n1:H1.next=h.next+1:=by rw [hH1]; simp
 have a1:H1.objs h.next=some (.row 134 4 [.t (Tk.t t)]):=by rw [hH1]; simp
 obtain ⟨p1,r1⟩:PX n H1 P s (t::ts) d out∧Fr n P h H1:=by rw [hH1]; exact hp.map1 _ _
 have e2:=pst (h:=H1.push (.row 57 9 [.t (prt 0 0 0 0 0 0 ⟨#[]⟩ ⟨#[]⟩ 0)])) (id:=H1.next) (k:=0) (a:=0) (b:=0) (c:=0) (vk:=0) (vn:=0) (pos:=0) (s:=⟨#[]⟩) (nm:=⟨#[]⟩) (by simp) 1 0 0 0 0 0 t.pos ⟨#[]⟩ ⟨#[]⟩
 obtain ⟨H2,hH2⟩:∃ H2,H2=(H1.push (.row 57 9 [.t (prt 0 0 0 0 0 0 ⟨#[]⟩ ⟨#[]⟩ 0)])).set H1.next (.row 57 9 [.t (prt 1 0 0 0 0 0 ⟨#[]⟩ ⟨#[]⟩ t.pos)]):=⟨_,rfl⟩
 rw [←hH2] at e2;have b2:H2.objs H1.next=some (.row 57 9 [.t (prt 1 0 0 0 0 0 ⟨#[]⟩ ⟨#[]⟩ t.pos)]):=by rw [hH2]; simp
 have a2:H2.objs h.next=some (.row 134 4 [.t (Tk.t t)]):=by rw [hH2]; simp [a1,show ¬ (h.next=H1.next) by omega]
 have k0:=kl0 a2;have k1:=kl1 a2;have k2:=kl2 a2;have k3:=kl3 a1;have j0:=kf0 a2;have j1:=kf1 a2;have j2:=kf2 a2;have j3:=kf3 a1;have m0:=pst4 b2 3 0 t.text;have mf0:=pf4 b2;have hb0:(H2.set H1.next (.row 57 9 [.t (prt 1 0 0 0 3 0 t.text ⟨#[]⟩ t.pos)])).objs H1.next=some (.row 57 9 [.t (prt 1 0 0 0 3 0 t.text ⟨#[]⟩ t.pos)]):=by simp
 obtain ⟨H3,hH3⟩:∃ H3,H3=(H2.set H1.next (.row 57 9 [.t (prt 1 0 0 0 3 0 t.text ⟨#[]⟩ t.pos)])):=⟨_,rfl⟩
 rw [←hH3] at m0;obtain ⟨p3,r3⟩:PX n H3 P s (t::ts) d out∧Fr n P H1 H3:=by rw [hH3]; exact p1.set1 (id:=0) hH2 _
 have b3:H3.objs H1.next=some (.row 57 9 [.t (prt 1 0 0 0 3 0 t.text ⟨#[]⟩ t.pos)]):=by rw [hH3]; simp
 obtain ⟨x3,o3,hx3,ho3,kk⟩:=p3.get;obtain rfl:=slice_cons hx3;have g3:=ps_1 ho3 ⟨_,hx3⟩;have g4:=ps_nil ho3;have g5:=ps_f1 ho3;have g6:=ps_s1 ho3 (Slice.cells hx3) (y:=.slice (ts.map Tk.t)) rfl;obtain ⟨p4,r4⟩:=kk (.slice (ts.map Tk.t)) ts d (.inr rfl);have b4:(H3.set P (psO s (.slice (ts.map Tk.t)) d o3)).objs H1.next=some (.row 57 9 [.t (prt 1 0 0 0 3 0 t.text ⟨#[]⟩ t.pos)]):=by simp [b3,show ¬ (H1.next=P) by omega]
 have g7:=pl b4;obtain ⟨h8,f9,g8,r8⟩:=x128 (c:=226) p4 hlen ⟨1,0,0,0,3,0,t.text,noText,t.pos⟩ rfl;refine ⟨h8,?_,g8,((r1.trans r3).trans r4).trans r8⟩;simp only [prP,noText] at f9;have sl':=fun h=>sl_tk h t ts
 simp only [List.map_cons] at sl';clear k kk hp p1 p3 p4 r1 r3 r4 r8 g8 hx hx3 ho ho3 a1 a2 b2 b3 b4 hH3;rw [call_run (cx:=cx) rfl Tryz.func226 ok226 nd226 rfl (lbe rfl) rfl rfl];simp -implicitDefEqProofs (disch:=omega) [-storeD,-nilCheckD,-fieldAddrD,-load_ptr,-load_eptr,f1,g1,g2,tkl,tlw,md,e1,e2,k0,k1,k2,k3,j0,j1,j2,j3,g3,g4,g5,g6,g7,sl',f9,hk,m0,mf0]
theorem s226_true (hp:PX n h P s (t::ts) d out)(hk1:t.kind≠1)(hk2:t.kind≠2)(hk4:t.kind≠4)(ht:t.text=bTrue)(hlen:out.length≤1000000):Res 226 n h P s d (.ok out.length ts (out ++ [⟨1,0,0,0,2,1,noText,noText,t.pos⟩])):=by
 obtain ⟨x,o,hx,ho,k⟩:=hp.get;obtain rfl:=slice_cons hx;have f1:=ps_1 ho ⟨_,hx⟩;have g1:=ps_nil ho;have g2:=ps_f1 ho;have hPn:P<h.next:=hp.2.1
 have e1:=kst (h:=h.push (.row 134 4 [.t (.agg [.int .i64 0,.str ⟨#[]⟩,.int .i64 0,.int .i64 0])])) (id:=h.next) (t:=t) (a:=0) (b:=0) (c:=0) (e:=⟨#[]⟩) (by simp)
 obtain ⟨H1,hH1⟩:∃ H1,H1=(h.push (.row 134 4 [.t (.agg [.int .i64 0,.str ⟨#[]⟩,.int .i64 0,.int .i64 0])])).set h.next (.row 134 4 [.t (Tk.t t)]):=⟨_,rfl⟩
 rw [←hH1] at e1;have n1:H1.next=h.next+1:=by rw [hH1]; simp
 have a1:H1.objs h.next=some (.row 134 4 [.t (Tk.t t)]):=by rw [hH1]; simp
 obtain ⟨p1,r1⟩:PX n H1 P s (t::ts) d out∧Fr n P h H1:=by rw [hH1]; exact hp.map1 _ _
 have e2:=pst (h:=H1.push (.row 57 9 [.t (prt 0 0 0 0 0 0 ⟨#[]⟩ ⟨#[]⟩ 0)])) (id:=H1.next) (k:=0) (a:=0) (b:=0) (c:=0) (vk:=0) (vn:=0) (pos:=0) (s:=⟨#[]⟩) (nm:=⟨#[]⟩) (by simp) 1 0 0 0 0 0 t.pos ⟨#[]⟩ ⟨#[]⟩
 obtain ⟨H2,hH2⟩:∃ H2,H2=(H1.push (.row 57 9 [.t (prt 0 0 0 0 0 0 ⟨#[]⟩ ⟨#[]⟩ 0)])).set H1.next (.row 57 9 [.t (prt 1 0 0 0 0 0 ⟨#[]⟩ ⟨#[]⟩ t.pos)]):=⟨_,rfl⟩
 rw [←hH2] at e2;have b2:H2.objs H1.next=some (.row 57 9 [.t (prt 1 0 0 0 0 0 ⟨#[]⟩ ⟨#[]⟩ t.pos)]):=by rw [hH2]; simp
 have a2:H2.objs h.next=some (.row 134 4 [.t (Tk.t t)]):=by rw [hH2]; simp [a1,show ¬ (h.next=H1.next) by omega]
 have k0:=kl0 a2;have k1:=kl1 a2;have k2:=kl2 a2;have k3:=kl3 a1;have j0:=kf0 a2;have j1:=kf1 a2;have j2:=kf2 a2;have j3:=kf3 a1;have m0:=pst4 b2 2 1 ⟨#[]⟩;have mf0:=pf4 b2;have hb0:(H2.set H1.next (.row 57 9 [.t (prt 1 0 0 0 2 1 ⟨#[]⟩ ⟨#[]⟩ t.pos)])).objs H1.next=some (.row 57 9 [.t (prt 1 0 0 0 2 1 ⟨#[]⟩ ⟨#[]⟩ t.pos)]):=by simp
 obtain ⟨H3,hH3⟩:∃ H3,H3=(H2.set H1.next (.row 57 9 [.t (prt 1 0 0 0 2 1 ⟨#[]⟩ ⟨#[]⟩ t.pos)])):=⟨_,rfl⟩
 rw [←hH3] at m0;obtain ⟨p3,r3⟩:PX n H3 P s (t::ts) d out∧Fr n P H1 H3:=by rw [hH3]; exact p1.set1 (id:=0) hH2 _
 have b3:H3.objs H1.next=some (.row 57 9 [.t (prt 1 0 0 0 2 1 ⟨#[]⟩ ⟨#[]⟩ t.pos)]):=by rw [hH3]; simp
 obtain ⟨x3,o3,hx3,ho3,kk⟩:=p3.get;obtain rfl:=slice_cons hx3;have g3:=ps_1 ho3 ⟨_,hx3⟩;have g4:=ps_nil ho3;have g5:=ps_f1 ho3;have g6:=ps_s1 ho3 (Slice.cells hx3) (y:=.slice (ts.map Tk.t)) rfl;obtain ⟨p4,r4⟩:=kk (.slice (ts.map Tk.t)) ts d (.inr rfl);have b4:(H3.set P (psO s (.slice (ts.map Tk.t)) d o3)).objs H1.next=some (.row 57 9 [.t (prt 1 0 0 0 2 1 ⟨#[]⟩ ⟨#[]⟩ t.pos)]):=by simp [b3,show ¬ (H1.next=P) by omega]
 have g7:=pl b4;obtain ⟨h8,f9,g8,r8⟩:=x128 (c:=226) p4 hlen ⟨1,0,0,0,2,1,noText,noText,t.pos⟩ rfl;refine ⟨h8,?_,g8,((r1.trans r3).trans r4).trans r8⟩;simp only [prP,noText] at f9;have sl':=fun h=>sl_tk h t ts
 simp only [List.map_cons] at sl';clear k kk hp p1 p3 p4 r1 r3 r4 r8 g8 hx hx3 ho ho3 a1 a2 b2 b3 b4 hH3;rw [call_run (cx:=cx) rfl Tryz.func226 ok226 nd226 rfl (lbe rfl) rfl rfl];simp -implicitDefEqProofs (disch:=omega) [-storeD,-nilCheckD,-fieldAddrD,-load_ptr,-load_eptr,f1,g1,g2,tkl,tlw,md,e1,e2,k0,k1,k2,k3,j0,j1,j2,j3,g3,g4,g5,g6,g7,sl',f9,hk1,hk2,hk4,ht,bTrue,deq',c236t,m0,mf0]
theorem s226_false (hp:PX n h P s (t::ts) d out)(hk1:t.kind≠1)(hk2:t.kind≠2)(hk4:t.kind≠4)(ht:t.text=bFalse)(hlen:out.length≤1000000):Res 226 n h P s d (.ok out.length ts (out ++ [⟨1,0,0,0,2,0,noText,noText,t.pos⟩])):=by
 obtain ⟨x,o,hx,ho,k⟩:=hp.get;obtain rfl:=slice_cons hx;have f1:=ps_1 ho ⟨_,hx⟩;have g1:=ps_nil ho;have g2:=ps_f1 ho;have hPn:P<h.next:=hp.2.1
 have e1:=kst (h:=h.push (.row 134 4 [.t (.agg [.int .i64 0,.str ⟨#[]⟩,.int .i64 0,.int .i64 0])])) (id:=h.next) (t:=t) (a:=0) (b:=0) (c:=0) (e:=⟨#[]⟩) (by simp)
 obtain ⟨H1,hH1⟩:∃ H1,H1=(h.push (.row 134 4 [.t (.agg [.int .i64 0,.str ⟨#[]⟩,.int .i64 0,.int .i64 0])])).set h.next (.row 134 4 [.t (Tk.t t)]):=⟨_,rfl⟩
 rw [←hH1] at e1;have n1:H1.next=h.next+1:=by rw [hH1]; simp
 have a1:H1.objs h.next=some (.row 134 4 [.t (Tk.t t)]):=by rw [hH1]; simp
 obtain ⟨p1,r1⟩:PX n H1 P s (t::ts) d out∧Fr n P h H1:=by rw [hH1]; exact hp.map1 _ _
 have e2:=pst (h:=H1.push (.row 57 9 [.t (prt 0 0 0 0 0 0 ⟨#[]⟩ ⟨#[]⟩ 0)])) (id:=H1.next) (k:=0) (a:=0) (b:=0) (c:=0) (vk:=0) (vn:=0) (pos:=0) (s:=⟨#[]⟩) (nm:=⟨#[]⟩) (by simp) 1 0 0 0 0 0 t.pos ⟨#[]⟩ ⟨#[]⟩
 obtain ⟨H2,hH2⟩:∃ H2,H2=(H1.push (.row 57 9 [.t (prt 0 0 0 0 0 0 ⟨#[]⟩ ⟨#[]⟩ 0)])).set H1.next (.row 57 9 [.t (prt 1 0 0 0 0 0 ⟨#[]⟩ ⟨#[]⟩ t.pos)]):=⟨_,rfl⟩
 rw [←hH2] at e2;have b2:H2.objs H1.next=some (.row 57 9 [.t (prt 1 0 0 0 0 0 ⟨#[]⟩ ⟨#[]⟩ t.pos)]):=by rw [hH2]; simp
 have a2:H2.objs h.next=some (.row 134 4 [.t (Tk.t t)]):=by rw [hH2]; simp [a1,show ¬ (h.next=H1.next) by omega]
 have k0:=kl0 a2;have k1:=kl1 a2;have k2:=kl2 a2;have k3:=kl3 a1;have j0:=kf0 a2;have j1:=kf1 a2;have j2:=kf2 a2;have j3:=kf3 a1;have m0:=pst4 b2 2 0 ⟨#[]⟩;have mf0:=pf4 b2;have hb0:(H2.set H1.next (.row 57 9 [.t (prt 1 0 0 0 2 0 ⟨#[]⟩ ⟨#[]⟩ t.pos)])).objs H1.next=some (.row 57 9 [.t (prt 1 0 0 0 2 0 ⟨#[]⟩ ⟨#[]⟩ t.pos)]):=by simp
 obtain ⟨H3,hH3⟩:∃ H3,H3=(H2.set H1.next (.row 57 9 [.t (prt 1 0 0 0 2 0 ⟨#[]⟩ ⟨#[]⟩ t.pos)])):=⟨_,rfl⟩
 rw [←hH3] at m0;obtain ⟨p3,r3⟩:PX n H3 P s (t::ts) d out∧Fr n P H1 H3:=by rw [hH3]; exact p1.set1 (id:=0) hH2 _
 have b3:H3.objs H1.next=some (.row 57 9 [.t (prt 1 0 0 0 2 0 ⟨#[]⟩ ⟨#[]⟩ t.pos)]):=by rw [hH3]; simp
 obtain ⟨x3,o3,hx3,ho3,kk⟩:=p3.get;obtain rfl:=slice_cons hx3;have g3:=ps_1 ho3 ⟨_,hx3⟩;have g4:=ps_nil ho3;have g5:=ps_f1 ho3;have g6:=ps_s1 ho3 (Slice.cells hx3) (y:=.slice (ts.map Tk.t)) rfl;obtain ⟨p4,r4⟩:=kk (.slice (ts.map Tk.t)) ts d (.inr rfl);have b4:(H3.set P (psO s (.slice (ts.map Tk.t)) d o3)).objs H1.next=some (.row 57 9 [.t (prt 1 0 0 0 2 0 ⟨#[]⟩ ⟨#[]⟩ t.pos)]):=by simp [b3,show ¬ (H1.next=P) by omega]
 have g7:=pl b4;obtain ⟨h8,f9,g8,r8⟩:=x128 (c:=226) p4 hlen ⟨1,0,0,0,2,0,noText,noText,t.pos⟩ rfl;refine ⟨h8,?_,g8,((r1.trans r3).trans r4).trans r8⟩;simp only [prP,noText] at f9;have sl':=fun h=>sl_tk h t ts
 simp only [List.map_cons] at sl';clear k kk hp p1 p3 p4 r1 r3 r4 r8 g8 hx hx3 ho ho3 a1 a2 b2 b3 b4 hH3;rw [call_run (cx:=cx) rfl Tryz.func226 ok226 nd226 rfl (lbe rfl) rfl rfl];simp -implicitDefEqProofs (disch:=omega) [-storeD,-nilCheckD,-fieldAddrD,-load_ptr,-load_eptr,f1,g1,g2,tkl,tlw,md,e1,e2,k0,k1,k2,k3,j0,j1,j2,j3,g3,g4,g5,g6,g7,sl',f9,hk1,hk2,hk4,ht,bFalse,deq',show eqS ⟨#[102,97,108,115,101]⟩ ⟨#[116,114,117,101]⟩=false by decide,c236f,m0,mf0]
theorem s226_var (hp:PX n h P s (t::ts) d out)(hk1:t.kind≠1)(hk2:t.kind≠2)(hk4:t.kind≠4)(ht:eqS t.text ⟨#[116,114,117,101]⟩=false)(hf:eqS t.text ⟨#[102,97,108,115,101]⟩=false)(hl:eqS t.text ⟨#[108,101,110]⟩=false)(hlen:out.length≤1000000):Res 226 n h P s d (.ok out.length ts (out ++ [⟨2,0,0,0,0,0,noText,t.text,t.pos⟩])):=by
 obtain ⟨x,o,hx,ho,k⟩:=hp.get;obtain rfl:=slice_cons hx;have f1:=ps_1 ho ⟨_,hx⟩;have g1:=ps_nil ho;have g2:=ps_f1 ho;have hPn:P<h.next:=hp.2.1
 have e1:=kst (h:=h.push (.row 134 4 [.t (.agg [.int .i64 0,.str ⟨#[]⟩,.int .i64 0,.int .i64 0])])) (id:=h.next) (t:=t) (a:=0) (b:=0) (c:=0) (e:=⟨#[]⟩) (by simp)
 obtain ⟨H1,hH1⟩:∃ H1,H1=(h.push (.row 134 4 [.t (.agg [.int .i64 0,.str ⟨#[]⟩,.int .i64 0,.int .i64 0])])).set h.next (.row 134 4 [.t (Tk.t t)]):=⟨_,rfl⟩
 rw [←hH1] at e1;have n1:H1.next=h.next+1:=by rw [hH1]; simp
 have a1:H1.objs h.next=some (.row 134 4 [.t (Tk.t t)]):=by rw [hH1]; simp
 obtain ⟨p1,r1⟩:PX n H1 P s (t::ts) d out∧Fr n P h H1:=by rw [hH1]; exact hp.map1 _ _
 have e2:=pst (h:=H1.push (.row 57 9 [.t (prt 0 0 0 0 0 0 ⟨#[]⟩ ⟨#[]⟩ 0)])) (id:=H1.next) (k:=0) (a:=0) (b:=0) (c:=0) (vk:=0) (vn:=0) (pos:=0) (s:=⟨#[]⟩) (nm:=⟨#[]⟩) (by simp) 1 0 0 0 0 0 t.pos ⟨#[]⟩ ⟨#[]⟩
 obtain ⟨H2,hH2⟩:∃ H2,H2=(H1.push (.row 57 9 [.t (prt 0 0 0 0 0 0 ⟨#[]⟩ ⟨#[]⟩ 0)])).set H1.next (.row 57 9 [.t (prt 1 0 0 0 0 0 ⟨#[]⟩ ⟨#[]⟩ t.pos)]):=⟨_,rfl⟩
 rw [←hH2] at e2;have b2:H2.objs H1.next=some (.row 57 9 [.t (prt 1 0 0 0 0 0 ⟨#[]⟩ ⟨#[]⟩ t.pos)]):=by rw [hH2]; simp
 have a2:H2.objs h.next=some (.row 134 4 [.t (Tk.t t)]):=by rw [hH2]; simp [a1,show ¬ (h.next=H1.next) by omega]
 have k0:=kl0 a2;have k1:=kl1 a2;have k2:=kl2 a2;have k3:=kl3 a1;have j0:=kf0 a2;have j1:=kf1 a2;have j2:=kf2 a2;have j3:=kf3 a1;have m0:=pst0 b2 2;have mf0:=pf0 b2;have hb0:(H2.set H1.next (.row 57 9 [.t (prt 2 0 0 0 0 0 ⟨#[]⟩ ⟨#[]⟩ t.pos)])).objs H1.next=some (.row 57 9 [.t (prt 2 0 0 0 0 0 ⟨#[]⟩ ⟨#[]⟩ t.pos)]):=by simp
 have m1:=pst5 hb0 t.text;have mf1:=pf5 hb0;have hb1:((H2.set H1.next (.row 57 9 [.t (prt 2 0 0 0 0 0 ⟨#[]⟩ ⟨#[]⟩ t.pos)])).set H1.next (.row 57 9 [.t (prt 2 0 0 0 0 0 ⟨#[]⟩ t.text t.pos)])).objs H1.next=some (.row 57 9 [.t (prt 2 0 0 0 0 0 ⟨#[]⟩ t.text t.pos)]):=by simp
 have a9:∀ w,(H2.set H1.next w).objs h.next=some (.row 134 4 [.t (Tk.t t)]):=fun w=>by simp [a2,show ¬ (h.next=H1.next) by omega]
 have a10:∀ w w2,((H2.set H1.next w).set H1.next w2).objs h.next=some (.row 134 4 [.t (Tk.t t)]):=fun w w2=>by simp [a2,show ¬ (h.next=H1.next) by omega]
 have b9:=fun w=>kf1 (a9 w)
 have b10:=fun w w2=>kf1 (a10 w w2)
 have b11:=fun w=>kl1 (a9 w)
 have b12:=fun w w2=>kl1 (a10 w w2)
 obtain ⟨H3,hH3⟩:∃ H3,H3=((H2.set H1.next (.row 57 9 [.t (prt 2 0 0 0 0 0 ⟨#[]⟩ ⟨#[]⟩ t.pos)])).set H1.next (.row 57 9 [.t (prt 2 0 0 0 0 0 ⟨#[]⟩ t.text t.pos)])):=⟨_,rfl⟩
 rw [←hH3] at m1;obtain ⟨p3,r3⟩:PX n H3 P s (t::ts) d out∧Fr n P H1 H3:=by rw [hH3]; exact p1.keep (by rw [hH2]; simp) (by rw [hH2]; rfl) fun id hid=>by rw [hH2]; simp [show ¬ (id=H1.next) by omega]
 have b3:H3.objs H1.next=some (.row 57 9 [.t (prt 2 0 0 0 0 0 ⟨#[]⟩ t.text t.pos)]):=by rw [hH3]; simp
 obtain ⟨x3,o3,hx3,ho3,kk⟩:=p3.get;obtain rfl:=slice_cons hx3;have g3:=ps_1 ho3 ⟨_,hx3⟩;have g4:=ps_nil ho3;have g5:=ps_f1 ho3;have g6:=ps_s1 ho3 (Slice.cells hx3) (y:=.slice (ts.map Tk.t)) rfl;obtain ⟨p4,r4⟩:=kk (.slice (ts.map Tk.t)) ts d (.inr rfl);have b4:(H3.set P (psO s (.slice (ts.map Tk.t)) d o3)).objs H1.next=some (.row 57 9 [.t (prt 2 0 0 0 0 0 ⟨#[]⟩ t.text t.pos)]):=by simp [b3,show ¬ (H1.next=P) by omega]
 have g7:=pl b4;obtain ⟨h8,f9,g8,r8⟩:=x128 (c:=226) p4 hlen ⟨2,0,0,0,0,0,noText,t.text,t.pos⟩ rfl;refine ⟨h8,?_,g8,((r1.trans r3).trans r4).trans r8⟩;simp only [prP,noText] at f9;have sl':=fun h=>sl_tk h t ts
 simp only [List.map_cons] at sl';clear k kk hp p1 p3 p4 r1 r3 r4 r8 g8 hx hx3 ho ho3 a1 a2 b2 b3 b4 hH3;rw [call_run (cx:=cx) rfl Tryz.func226 ok226 nd226 rfl (lbe rfl) rfl rfl];simp -implicitDefEqProofs (disch:=omega) [-storeD,-nilCheckD,-fieldAddrD,-load_ptr,-load_eptr,f1,g1,g2,tkl,tlw,md,e1,e2,k0,k1,k2,k3,j0,j1,j2,j3,g3,g4,g5,g6,g7,sl',f9,hk1,hk2,hk4,ht,hf,hl,b9,b10,b11,b12,m0,mf0,m1,mf1]
end
end Go.Proofs.YtaldobgfbkllfaaGreatDoor.P0
