import Derived.Test.YtlcbhhmnfmeoeaaDoorDL19
import Derived.Test.YtlcbhhmnfmeoeaaDoorDFin
set_option linter.unusedSimpArgs false
set_option linter.unusedVariables false
set_option linter.unusedSectionVars false
namespace Go.Proofs.YtlcbhhmnfmeoeaaDoor
open Vai
theorem answers3 : Answers cx prim 3 [.str] 1048576 := by
  rintro xs hxs hb
  obtain ⟨x1, _, rfl, h1, rfl⟩ := hxs
  obtain ⟨s, rfl, hs⟩ := has_str h1
  simp only [T.bulk.bulks] at hb
  obtain ⟨h', hc⟩ := law3 s (by omega)
  obtain ⟨k, hk⟩ := call_some.1 hc
  exact ⟨k, h', hk⟩
end Go.Proofs.YtlcbhhmnfmeoeaaDoor
