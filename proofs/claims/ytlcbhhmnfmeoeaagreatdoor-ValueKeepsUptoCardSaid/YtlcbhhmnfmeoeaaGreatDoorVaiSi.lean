import Derived.Test.YtlcbhhmnfmeoeaaGreatDoorVaiSh
set_option linter.unusedSimpArgs false
set_option linter.unusedVariables false
set_option linter.unusedSectionVars false
namespace Go.Proofs.YtlcbhhmnfmeoeaaGreatDoor
open Vai
abbrev uSh : Sh := .agg [.int .i64, .int .i64, .str]
abbrev vSh : Sh := .agg [.str, .agg [.int .i64, .int .i64, .str]]
abbrev dSh : Sh := .agg [.str, .int .i64]
theorem val_dec {y : T} (h : uSh.has y) : ∃ k n s, y = valT k n s ∧ s.size ≤ y.bulk ∧ (-9223372036854775808 ≤ n ∧ n ≤ 9223372036854775807) ∧ (-9223372036854775808 ≤ k ∧ k ≤ 9223372036854775807) := by
  obtain ⟨l, rfl, _, _, rfl, ⟨k, rfl, hk⟩, _, _, rfl, ⟨n, rfl, hn⟩, _, _, rfl, ⟨t, rfl⟩, rfl⟩ := has_agg h
  exact ⟨k, n, t, rfl, by simp [T.bulk, T.bulk.bulks]; omega, hn, hk⟩
theorem var_dec {y : T} (h : vSh.has y) : ∃ v : WV, y = varW v ∧ (-9223372036854775808 ≤ v.2.2.1 ∧ v.2.2.1 ≤ 9223372036854775807) := by
  obtain ⟨l, rfl, _, _, rfl, ⟨a, rfl⟩, _, _, rfl, ⟨_, _, rfl, ⟨k, rfl, _⟩, _, _, rfl, ⟨n, rfl, hn⟩, _, _, rfl, ⟨t, rfl⟩, rfl⟩, rfl⟩ := has_agg h
  exact ⟨(a, k, n, t), rfl, hn⟩
theorem dec_dec {y : T} (h : dSh.has y) : ∃ d : DV, y = decT d ∧ True := by
  obtain ⟨l, rfl, _, _, rfl, ⟨a, rfl⟩, _, _, rfl, ⟨k, rfl, _⟩, rfl⟩ := has_agg h
  exact ⟨(a, k), rfl, trivial⟩
theorem var_bulk (l : List WV) : l.length ≤ T.bulk.bulks (l.map varW) ∧ ∀ v ∈ l, v.1.size ≤ T.bulk.bulks (l.map varW) ∧ v.2.2.2.size ≤ T.bulk.bulks (l.map varW) := by
  induction l with
  | nil => simp [T.bulk.bulks]
  | cons f l ih =>
    obtain ⟨h1, h3⟩ := ih
    simp only [List.map_cons, T.bulk.bulks, T.bulk, List.length_cons]
    refine ⟨by omega, fun v hv => ?_⟩
    rcases List.mem_cons.1 hv with rfl | hv
    · omega
    · have := h3 v hv
      omega
theorem dec_bulk (l : List DV) : l.length ≤ T.bulk.bulks (l.map decT) := by
  induction l with
  | nil => simp [T.bulk.bulks]
  | cons f l ih =>
    simp only [List.map_cons, T.bulk.bulks, T.bulk, List.length_cons]
    omega
theorem answers7 : Answers cx prim 7 [.slice vSh, .str, uSh, .slice dSh] 1048576 := by
  rintro xs hxs hb
  obtain ⟨x1, _, rfl, h1, x2, _, rfl, h2, x3, _, rfl, h3, x4, _, rfl, h4, rfl⟩ := hxs
  obtain ⟨vs, hvs, _, hbl⟩ := has_slice_dec h1 fun y => var_dec
  obtain ⟨nm, rfl, hn⟩ := has_str h2
  obtain ⟨k, n, sv, rfl, hsv, _⟩ := val_dec h3
  obtain ⟨ds, hds, _, hbd⟩ := has_slice_dec h4 fun y => dec_dec
  have b1 := var_bulk vs
  have b2 := dec_bulk ds
  simp only [T.bulk.bulks] at hb
  obtain ⟨h', hc⟩ := law7 (nm := nm) (k := k) (n := n) (sv := sv) hvs hds ⟨by omega, fun v hv => by have := b1.2 v hv; omega⟩ (by omega) (by omega) (by omega)
  obtain ⟨k, hk⟩ := call_some.1 hc
  exact ⟨k, h', hk⟩
end Go.Proofs.YtlcbhhmnfmeoeaaGreatDoor

namespace Go.Proofs.YtlcbhhmnfmeoeaaGreatDoor
open Vai
theorem answers5 : Answers cx prim 5 [.slice vSh, .str, uSh] 1048576 := by
  rintro xs hxs hb
  obtain ⟨x1, _, rfl, h1, x2, _, rfl, h2, x3, _, rfl, h3, rfl⟩ := hxs
  obtain ⟨vs, hvs, _, hbl⟩ := has_slice_dec h1 fun y => var_dec
  obtain ⟨nm, rfl, hn⟩ := has_str h2
  obtain ⟨k, n, sv, rfl, hsv, _⟩ := val_dec h3
  have b1 := var_bulk vs
  simp only [T.bulk.bulks] at hb
  obtain ⟨h', hc⟩ := law5 (nm := nm) (k := k) (n := n) (sv := sv) hvs ⟨by omega, fun v hv => by have := b1.2 v hv; omega⟩ (by omega) (by omega)
  obtain ⟨k, hk⟩ := call_some.1 hc
  exact ⟨k, h', hk⟩
end Go.Proofs.YtlcbhhmnfmeoeaaGreatDoor
