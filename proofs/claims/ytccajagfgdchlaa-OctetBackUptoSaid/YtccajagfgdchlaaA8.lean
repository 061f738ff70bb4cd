import Derived.Test.YtccajagfgdchlaaR4
import Derived.Test.YtccajagfgdchlaaFin
set_option linter.unusedSimpArgs false
set_option linter.unusedVariables false
namespace Go.Proofs.Ytccajagfgdchlaa
open Vai
theorem fld_dec {y : T} (h : (Sh.agg [.int .i64, .int .i64, .str, .bool]).has y) : ∃ f : Fld, y = f.t ∧ -9223372036854775808 ≤ f.n ∧ f.n ≤ 9223372036854775807 := by
  obtain ⟨l, rfl, _, _, rfl, ⟨k, rfl, _⟩, _, _, rfl, ⟨n, rfl, hn⟩, _, _, rfl, ⟨s, rfl⟩, _, _, rfl, ⟨x, rfl⟩, rfl⟩ := has_agg h
  exact ⟨⟨k, n, s, x⟩, rfl, hn⟩
theorem fld_bulk (l : List Fld) : bulkF l + l.length ≤ T.bulk.bulks (l.map Fld.t) := by
  induction l with
  | nil => simp [bulkF, T.bulk.bulks]
  | cons f l ih =>
    simp only [bulkF, List.map_cons, List.sum_cons, T.bulk.bulks, T.bulk, List.length_cons] at ih ⊢
    omega
theorem answers8 : Answers cx prim 8 [.slice (.agg [.int .i64, .int .i64, .str, .bool]), .slice (.int .u8)] 1048576 := by
  rintro xs hxs hb
  obtain ⟨x1, _, rfl, h1, x2, _, rfl, h2, rfl⟩ := hxs
  obtain ⟨l, hl, hp, hbl⟩ := has_slice_dec h1 fun y => fld_dec
  obtain ⟨m, hm, hml⟩ := has_bytes h2
  simp only [T.bulk.bulks] at hb
  have := fld_bulk l
  obtain ⟨h', hc⟩ := law8 hl (by omega) (by omega) hm (by omega) hp
  obtain ⟨k, hk⟩ := call_some.1 hc
  exact ⟨k, h', hk⟩
end Go.Proofs.Ytccajagfgdchlaa
