import Derived.Test.YtlcbhhmnfmeoeaaDoorDL20
import Derived.Test.YtlcbhhmnfmeoeaaDoorDFin
set_option linter.unusedSimpArgs false
set_option linter.unusedVariables false
set_option linter.unusedSectionVars false
namespace Go.Proofs.YtlcbhhmnfmeoeaaDoor
open Vai
theorem answers8 : Answers cx prim 8 [.str] 1048576 := by
  rintro xs hxs hb
  obtain ⟨x1, _, rfl, h1, rfl⟩ := hxs
  obtain ⟨s, rfl, hs⟩ := has_str h1
  simp only [T.bulk.bulks] at hb
  obtain ⟨h', hc⟩ := law8 s (by omega)
  obtain ⟨k, hk⟩ := call_some.1 hc
  exact ⟨k, h', hk⟩
end Go.Proofs.YtlcbhhmnfmeoeaaDoor
