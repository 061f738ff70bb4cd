import Derived.Test.YtaldobgfbkllfaaGreatDoorVaiSu
import Derived.Test.YtaldobgfbkllfaaGreatDoorVaiSr
set_option linter.unusedSimpArgs false
set_option linter.unusedVariables false
set_option linter.unusedSectionVars false
namespace Go.Proofs.YtaldobgfbkllfaaGreatDoor
open Vai
instance glN2:GlS:=gl2
theorem answers10:Answers cx prim 10 [.int .u8,.int .u8] 1048576:=by
 rintro xs hxs hb;obtain ⟨x1,_,rfl,h1,x2,_,rfl,h2,rfl⟩:=hxs;obtain ⟨a,rfl,ha1,ha2⟩:=has_int h1;obtain ⟨b,rfl,hb1,hb2⟩:=has_int h2;obtain ⟨h',hc⟩:=law10 (fun h=>c24 h rfl) (a:=a) (b:=b) ⟨ha1,ha2⟩ ⟨hb1,hb2⟩
 obtain ⟨k,hk⟩:=call_some.1 hc;exact ⟨k,h',hk⟩
end Go.Proofs.YtaldobgfbkllfaaGreatDoor
