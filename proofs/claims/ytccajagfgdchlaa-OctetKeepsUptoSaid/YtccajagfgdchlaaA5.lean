import Derived.Test.YtccajagfgdchlaaR6
import Derived.Test.YtccajagfgdchlaaFin
set_option linter.unusedSimpArgs false
set_option linter.unusedVariables false
namespace Go.Proofs.Ytccajagfgdchlaa
open Vai
theorem answers5 : Answers cx prim 5 [.slice (.int .u8), .int .i64] 1048576 := by
  rintro xs hxs hb
  obtain ⟨x1, _, rfl, h1, x2, _, rfl, h2, rfl⟩ := hxs
  obtain ⟨m, hm, hml⟩ := has_bytes h1
  obtain ⟨n, rfl, _, _⟩ := has_int h2
  simp only [T.bulk.bulks] at hb
  obtain ⟨h', hc⟩ := law5 n hm (by omega)
  obtain ⟨k, hk⟩ := call_some.1 hc
  exact ⟨k, h', hk⟩
end Go.Proofs.Ytccajagfgdchlaa
