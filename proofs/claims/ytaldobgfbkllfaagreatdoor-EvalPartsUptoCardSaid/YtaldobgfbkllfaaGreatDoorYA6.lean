import Derived.Test.YtaldobgfbkllfaaGreatDoorVaiSs
set_option linter.unusedSimpArgs false
set_option linter.unusedVariables false
set_option linter.unusedSectionVars false
namespace Go.Proofs.YtaldobgfbkllfaaGreatDoor
open Vai
instance glN:GlY:=gl0
theorem answers6:Answers cx prim 6 [.str,.str,.slice vSh] 1048576:=by
 rintro xs hxs hb;obtain ⟨x0,_,rfl,h0,x1,_,rfl,h1,x2,_,rfl,h2,rfl⟩:=hxs;obtain ⟨s,rfl,hs⟩:=has_str h0;obtain ⟨t,rfl,ht⟩:=has_str h1;obtain ⟨vl,hvs,hvn,hbv⟩:=has_slice_dec h2 fun y=>var_dec
 have b2:=var_bulk vl;simp only [T.bulk.bulks] at hb;obtain ⟨h',hc⟩:=law6 (s:=s) (t:=t) (by omega) (by omega) hvs ⟨by omega,fun v hv=>by have:=b2.2 v hv; omega⟩ (get_ok hvn fun v hv=>by have:=(b2.2 v hv).2; omega)
 obtain ⟨k,hk⟩:=call_some.1 hc;exact ⟨k,h',hk⟩
end Go.Proofs.YtaldobgfbkllfaaGreatDoor
