import Derived.Test.YtaldobgfbkllfaaGreatDoorVaiSc
import Derived.KernelRfl
set_option linter.unusedSimpArgs false
set_option linter.unusedVariables false
set_option linter.unusedSectionVars false
namespace Go.Proofs.YtaldobgfbkllfaaGreatDoor
open Vai
variable [Gl]
set_option maxHeartbeats 0
set_option maxRecDepth 100000
theorem v24:snapEnd (callQ cx okT primQ 1000 24 [] .empty)=some (.t (.bool true)):=by kernel_rfl
theorem c24 {c:FuncId}(h:H)(hm:md c 24 = .pure):callD (cx.at c) (call cx prim) 24 [] h=some (.t (.bool true),h):=pureQ2 (cx:=cx) primLe okQ (c:=c) cb24 hm v24 h rfl
end Go.Proofs.YtaldobgfbkllfaaGreatDoor
