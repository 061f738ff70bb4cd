import Derived.Test.YtlcbhhmnfmeoeaaDoorDN5
import Derived.Test.YtlcbhhmnfmeoeaaDoorDFin
set_option linter.unusedSimpArgs false
set_option linter.unusedVariables false
set_option linter.unusedSectionVars false
namespace Go.Proofs.YtlcbhhmnfmeoeaaDoor
open Vai
theorem answers5 : Answers cx prim 5 [.str, .int .i64] 1048576 := by
  rintro xs hxs hb
  obtain ⟨x1, _, rfl, h1, x2, _, rfl, h2, rfl⟩ := hxs
  obtain ⟨s, rfl, hs⟩ := has_str h1
  obtain ⟨k, rfl, _, _⟩ := has_int h2
  simp only [T.bulk.bulks] at hb
  obtain ⟨h', hc⟩ := law5 s k (by omega)
  obtain ⟨k, hk⟩ := call_some.1 hc
  exact ⟨k, h', hk⟩
end Go.Proofs.YtlcbhhmnfmeoeaaDoor
