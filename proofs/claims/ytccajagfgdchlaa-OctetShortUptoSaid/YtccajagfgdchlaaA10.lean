import Derived.Test.YtccajagfgdchlaaR2
import Derived.Test.YtccajagfgdchlaaFin
set_option linter.unusedSimpArgs false
set_option linter.unusedVariables false
namespace Go.Proofs.Ytccajagfgdchlaa
open Vai
theorem answers10 : Answers cx prim 10 [.int .i64, .str, .int .i64] 1048576 := by
  rintro xs hxs hb
  obtain ⟨x1, _, rfl, h1, x2, _, rfl, h2, x3, _, rfl, h3, rfl⟩ := hxs
  obtain ⟨n, rfl, hn, hn2⟩ := has_int h1
  obtain ⟨s, rfl, hs⟩ := has_str h2
  obtain ⟨cut, rfl, _, _⟩ := has_int h3
  simp only [T.bulk.bulks] at hb
  obtain ⟨h', hc⟩ := law10 n s cut hn hn2 (by omega)
  obtain ⟨k, hk⟩ := call_some.1 hc
  exact ⟨k, h', hk⟩
end Go.Proofs.Ytccajagfgdchlaa
