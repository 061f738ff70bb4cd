import Derived.Test.YtccajagfgdchlaaR5
import Derived.Test.YtccajagfgdchlaaFin
set_option linter.unusedSimpArgs false
set_option linter.unusedVariables false
namespace Go.Proofs.Ytccajagfgdchlaa
open Vai
theorem op_dec {y : T} (h : (Sh.agg [.int .i64, .int .i64]).has y) : ∃ f : Int × Int, y = opT f ∧ True := by
  obtain ⟨l, rfl, _, _, rfl, ⟨k, rfl, _⟩, _, _, rfl, ⟨n, rfl, hn⟩, rfl⟩ := has_agg h
  exact ⟨(k, n), rfl, trivial⟩
theorem op_bulk (l : List (Int × Int)) : l.length ≤ T.bulk.bulks (l.map opT) := by
  induction l with
  | nil => simp [T.bulk.bulks]
  | cons f l ih =>
    simp only [List.map_cons, T.bulk.bulks, T.bulk, List.length_cons]
    omega
theorem answers9 : Answers cx prim 9 [.slice (.int .u8), .slice (.agg [.int .i64, .int .i64])] 1048576 := by
  rintro xs hxs hb
  obtain ⟨x1, _, rfl, h1, x2, _, rfl, h2, rfl⟩ := hxs
  obtain ⟨m, hm, hml⟩ := has_bytes h1
  obtain ⟨l, hl, _, hbl⟩ := has_slice_dec h2 fun y => op_dec
  simp only [T.bulk.bulks] at hb
  have := op_bulk l
  obtain ⟨h', hc⟩ := law9 hl hm (by omega) (by omega)
  obtain ⟨k, hk⟩ := call_some.1 hc
  exact ⟨k, h', hk⟩
end Go.Proofs.Ytccajagfgdchlaa
