import Derived.Test.YtaldobgfbkllfaaGreatDoorVaiSv
set_option linter.unusedSimpArgs false
set_option linter.unusedVariables false
set_option linter.unusedSectionVars false
namespace Go.Proofs.YtaldobgfbkllfaaGreatDoor
open Vai
instance glN:GlY:=gl0
theorem answers9:Answers cx prim 9 [.str,.slice dcSh,.int .u8] 1048576:=by
 rintro xs hxs hb;obtain ⟨x1,_,rfl,h1,x2,_,rfl,h2,x3,_,rfl,h3,rfl⟩:=hxs;obtain ⟨s,rfl,hs⟩:=has_str h1;obtain ⟨ds,hds,_,hbd⟩:=has_slice_dec h2 fun y=>decl_dec
 obtain ⟨n,rfl,hn1,hn2⟩:=has_int h3;have b2:=decl_bulk ds;simp only [T.bulk.bulks] at hb;obtain ⟨h',hc⟩:=law9 (s:=s) (n:=n) (by omega) hds (by omega) ⟨hn1,hn2⟩
 obtain ⟨k,hk⟩:=call_some.1 hc;exact ⟨k,h',hk⟩
end Go.Proofs.YtaldobgfbkllfaaGreatDoor
