import Derived.Test.YtlcbhhmnfmeoeaaDoorDN1
import Derived.Test.YtlcbhhmnfmeoeaaDoorDFin
set_option linter.unusedSimpArgs false
set_option linter.unusedVariables false
set_option linter.unusedSectionVars false
namespace Go.Proofs.YtlcbhhmnfmeoeaaDoor
open Vai
theorem answers6 : Answers cx prim 6 [.int .i64, .int .u8] 1048576 := by
  rintro xs hxs hb
  obtain ⟨x1, _, rfl, h1, x2, _, rfl, h2, rfl⟩ := hxs
  obtain ⟨n, rfl, hn1, hn2⟩ := has_int h1
  obtain ⟨c, rfl, hc1, hc2⟩ := has_int h2
  have hc1 : 0 ≤ c := hc1
  have hc2 : c ≤ 255 := hc2
  obtain ⟨h', hc⟩ := law6 n c.toNat hn1 hn2 (by omega)
  rw [show (c.toNat : Int) = c by omega] at hc
  obtain ⟨k, hk⟩ := call_some.1 hc
  exact ⟨k, h', hk⟩
end Go.Proofs.YtlcbhhmnfmeoeaaDoor
