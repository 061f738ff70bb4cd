import Derived.Test.YtlcbhhmnfmeoeaaDoorDN4
import Derived.Test.YtlcbhhmnfmeoeaaDoorDFin
set_option linter.unusedSimpArgs false
set_option linter.unusedVariables false
set_option linter.unusedSectionVars false
namespace Go.Proofs.YtlcbhhmnfmeoeaaDoor
open Vai
theorem answers7 : Answers cx prim 7 [.str] 1048576 := by
  rintro xs hxs hb
  obtain ⟨x1, _, rfl, h1, rfl⟩ := hxs
  obtain ⟨s, rfl, hs⟩ := has_str h1
  obtain ⟨h', hc⟩ := law7 s
  obtain ⟨k, hk⟩ := call_some.1 hc
  exact ⟨k, h', hk⟩
end Go.Proofs.YtlcbhhmnfmeoeaaDoor
