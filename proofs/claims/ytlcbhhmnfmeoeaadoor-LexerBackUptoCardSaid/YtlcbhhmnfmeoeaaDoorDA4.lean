import Derived.Test.YtlcbhhmnfmeoeaaDoorDN7
import Derived.Test.YtlcbhhmnfmeoeaaDoorDFin
set_option linter.unusedSimpArgs false
set_option linter.unusedVariables false
set_option linter.unusedSectionVars false
namespace Go.Proofs.YtlcbhhmnfmeoeaaDoor
open Vai
theorem answers4 : Answers cx prim 4 [.str, .int .u8] 1048576 := by
  rintro xs hxs hb
  obtain ⟨x1, _, rfl, h1, x2, _, rfl, h2, rfl⟩ := hxs
  obtain ⟨s, rfl, hs⟩ := has_str h1
  obtain ⟨c, rfl, hc1, hc2⟩ := has_int h2
  have hc1 : 0 ≤ c := hc1
  have hc2 : c ≤ 255 := hc2
  simp only [T.bulk.bulks] at hb
  obtain ⟨h', hc⟩ := law4 s c.toNat (by omega) (by omega)
  rw [show (c.toNat : Int) = c by omega] at hc
  obtain ⟨k, hk⟩ := call_some.1 hc
  exact ⟨k, h', hk⟩
end Go.Proofs.YtlcbhhmnfmeoeaaDoor
