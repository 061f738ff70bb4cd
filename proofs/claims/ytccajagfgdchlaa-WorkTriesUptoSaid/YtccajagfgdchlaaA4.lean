import Derived.Test.YtccajagfgdchlaaJ2
import Derived.Test.YtccajagfgdchlaaFin
set_option linter.unusedSimpArgs false
set_option linter.unusedVariables false
namespace Go.Proofs.Ytccajagfgdchlaa
open Vai
theorem answers4 : Answers cx prim 4 [.int .i64, .int .i64] 1048576 := by
  rintro xs hxs hb
  obtain ⟨x1, _, rfl, h1, x2, _, rfl, h2, rfl⟩ := hxs
  obtain ⟨n, rfl, _, _⟩ := has_int h1
  obtain ⟨m, rfl, _, _⟩ := has_int h2
  obtain ⟨h', hc⟩ := law4 n m
  obtain ⟨k, hk⟩ := call_some.1 hc
  exact ⟨k, h', hk⟩
end Go.Proofs.Ytccajagfgdchlaa
