import Derived.Test.YtccajagfgdchlaaKb9
import Derived.Test.YtccajagfgdchlaaFin
set_option linter.unusedSimpArgs false
set_option linter.unusedVariables false
set_option linter.unusedSectionVars false
namespace Go.Proofs.Ytccajagfgdchlaa
open Vai
abbrev vSh11 : Sh := .agg [.str, .agg [.int .i64, .int .i64, .str]]
theorem var_dec11 {y : T} (h : vSh11.has y) : ∃ v : VR4, y = varT v ∧ (inR v.2.1 ∧ inR v.2.2.1) := by
  obtain ⟨l, rfl, _, _, rfl, ⟨a, rfl⟩, _, _, rfl, ⟨_, _, rfl, ⟨k, rfl, hk⟩, _, _, rfl, ⟨n, rfl, hn⟩, _, _, rfl, ⟨t, rfl⟩, rfl⟩, rfl⟩ := has_agg h
  exact ⟨(a, k, n, t), rfl, hk, hn⟩
theorem var_bulk11 (l : List VR4) : l.length ≤ T.bulk.bulks (l.map varT) ∧ (encVs l).length ≤ 32 * l.length + T.bulk.bulks (l.map varT) ∧ ∀ v ∈ l, v.1.size ≤ T.bulk.bulks (l.map varT) ∧ v.2.2.2.size ≤ T.bulk.bulks (l.map varT) := by
  induction l with
  | nil => simp [T.bulk.bulks, encVs]
  | cons f l ih =>
    obtain ⟨h1, h2, h3⟩ := ih
    have e : encVs (f :: l) = encV f ++ encVs l := by simp [encVs]
    have hl : (encV f).length = 8 + f.1.size + 8 + 8 + (8 + f.2.2.2.size) := by
      simp [encV, bek_len]
      omega
    simp only [List.map_cons, T.bulk.bulks, T.bulk, List.length_cons, e, List.length_append, hl]
    refine ⟨by omega, by omega, fun v hv => ?_⟩
    rcases List.mem_cons.1 hv with rfl | hv
    · omega
    · have := h3 v hv
      omega
theorem answers11 : Answers cx prim 11 [.agg [.int .i64, .int .i64, .str, .bool, .int .i64, .int .i64, .int .i64, .int .i64, .slice vSh11], .slice (.int .u8)] 1048576 := by
  rintro xs hxs hb
  obtain ⟨x1, _, rfl, h1, x2, _, rfl, h2, rfl⟩ := hxs
  obtain ⟨m, hm, hml⟩ := has_bytes h2
  obtain ⟨l, rfl, hl⟩ := has_agg h1
  obtain ⟨_, _, rfl, ⟨id, rfl, hr1⟩, _, _, rfl, ⟨inst, rfl, hr2⟩, _, _, rfl, ⟨node, rfl⟩, _, _, rfl, ⟨undo, rfl⟩, _, _, rfl, ⟨state, rfl, hr3⟩, _, _, rfl, ⟨left, rfl, hr4⟩, _, _, rfl, ⟨due, rfl, hr5⟩, _, _, rfl, ⟨till, rfl, hr6⟩, w, _, rfl, hv, rfl⟩ := hl
  obtain ⟨x, rfl, hx⟩ : ∃ x, w = [x] ∧ (Sh.slice vSh11).has x := by
    rcases hv with rfl | ⟨es, rfl, h⟩
    · exact ⟨_, rfl, [.nilSlice], .inl rfl, by simp [Sh.isAgg]⟩
    · exact ⟨_, rfl, [.slice es], .inr ⟨es, rfl, h⟩, by simp [Sh.isAgg]⟩
  obtain ⟨vs, hvs, hvp, hbl⟩ := has_slice_dec hx fun y => var_dec11
  simp only [T.bulk.bulks, T.bulk, List.append_nil, List.cons_append, List.nil_append] at hb
  obtain ⟨b1, b2, b3⟩ := var_bulk11 vs
  have hok : ∀ v ∈ vs, okV v := fun v hv => by
    have h1 := b3 v hv
    have h2 := hvp v hv
    exact ⟨by omega, h2.1, h2.2, by omega⟩
  obtain ⟨h', hc⟩ := law11 ⟨id, inst, node, undo, state, left, due, till, x⟩ hvs ⟨by omega, by omega, fun v hv => by have := b3 v hv; omega⟩ (fun h => by simp only; omega) (by simp only; omega) ⟨hr1, hr2, hr3, hr4, hr5, hr6⟩ hok hm (by omega)
  obtain ⟨k, hk⟩ := call_some.1 hc
  exact ⟨k, h', hk⟩
end Go.Proofs.Ytccajagfgdchlaa
