import Derived.Test.YtccajagfgdchlaaJ4
import Derived.Test.YtccajagfgdchlaaFin
set_option linter.unusedSimpArgs false
set_option linter.unusedVariables false
namespace Go.Proofs.Ytccajagfgdchlaa
open Vai
theorem act_dec {y : T} (h : (Sh.agg [.int .i64, .int .i64]).has y) : ∃ f : Int × Int, y = actT f ∧ True := by
  obtain ⟨l, rfl, _, _, rfl, ⟨k, rfl, _⟩, _, _, rfl, ⟨n, rfl, hn⟩, rfl⟩ := has_agg h
  exact ⟨(k, n), rfl, trivial⟩
theorem act_bulk (l : List (Int × Int)) : l.length ≤ T.bulk.bulks (l.map actT) := by
  induction l with
  | nil => simp [T.bulk.bulks]
  | cons f l ih =>
    simp only [List.map_cons, T.bulk.bulks, T.bulk, List.length_cons]
    omega
theorem answers6 : Answers cx prim 6 [.int .i64, .int .i64, .slice (.agg [.int .i64, .int .i64])] 1048576 := by
  rintro xs hxs hb
  obtain ⟨x1, _, rfl, h1, x2, _, rfl, h2, x3, _, rfl, h3, rfl⟩ := hxs
  obtain ⟨tr, rfl, _, _⟩ := has_int h1
  obtain ⟨bo, rfl, _, _⟩ := has_int h2
  obtain ⟨l, hl, _, hbl⟩ := has_slice_dec h3 fun y => act_dec
  simp only [T.bulk.bulks] at hb
  have := act_bulk l
  obtain ⟨h', hc⟩ := law6 (tr := tr) (bo := bo) hl (by omega)
  obtain ⟨k, hk⟩ := call_some.1 hc
  exact ⟨k, h', hk⟩
end Go.Proofs.Ytccajagfgdchlaa
