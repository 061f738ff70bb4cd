import Derived.Test.YtccajagfgdchlaaKp6
import Derived.Test.YtccajagfgdchlaaFin
set_option linter.unusedSimpArgs false
set_option linter.unusedVariables false
namespace Go.Proofs.Ytccajagfgdchlaa.Kp
open Vai
abbrev vSh : Sh := .agg [.str, .agg [.int .i64, .int .i64, .str]]
theorem var_dec {y : T} (h : vSh.has y) : ∃ v, y = varT v ∧ True := by
  obtain ⟨l, rfl, _, _, rfl, ⟨a, rfl⟩, _, _, rfl, ⟨_, _, rfl, ⟨k, rfl, _⟩, _, _, rfl, ⟨n, rfl, _⟩, _, _, rfl, ⟨t, rfl⟩, rfl⟩, rfl⟩ := has_agg h
  exact ⟨(a, k, n, t), rfl, trivial⟩
theorem var_bulk (l : List (ByteArray × Int × Int × ByteArray)) : l.length ≤ T.bulk.bulks (l.map varT) ∧ (encVs l).length ≤ 40 * T.bulk.bulks (l.map varT) ∧ ∀ v ∈ l, v.1.size ≤ T.bulk.bulks (l.map varT) ∧ v.2.2.2.size ≤ T.bulk.bulks (l.map varT) := by
  induction l with
  | nil => simp [T.bulk.bulks, encVs]
  | cons f l ih =>
    obtain ⟨h1, h2, h3⟩ := ih
    have e : encVs (f :: l) = encV f ++ encVs l := by simp [encVs]
    have hl : (encV f).length = 8 + f.1.size + 8 + 8 + (8 + f.2.2.2.size) := by
      simp [encV, bek_len]
      omega
    simp only [List.map_cons, T.bulk.bulks, T.bulk, List.length_cons, e, List.length_append, hl]
    refine ⟨by omega, by omega, fun v hv => ?_⟩
    rcases List.mem_cons.1 hv with rfl | hv
    · omega
    · have := h3 v hv
      omega
theorem primOK : PrimOK Try.prog prim := fun k g h => by cases h
theorem answers7 : Answers cx prim 7 [.agg [.int .i64, .int .i64, .str, .bool, .int .i64, .int .i64, .int .i64, .int .i64, .slice vSh], .int .i64] 1048576 := by
  rintro xs hxs hb
  obtain ⟨x1, _, rfl, h1, x2, _, rfl, h2, rfl⟩ := hxs
  obtain ⟨n, rfl, _, _⟩ := has_int h2
  obtain ⟨l, rfl, hl⟩ := has_agg h1
  obtain ⟨_, _, rfl, ⟨id, rfl, _⟩, _, _, rfl, ⟨inst, rfl, _⟩, _, _, rfl, ⟨node, rfl⟩, _, _, rfl, ⟨undo, rfl⟩, _, _, rfl, ⟨state, rfl, _⟩, _, _, rfl, ⟨left, rfl, _⟩, _, _, rfl, ⟨due, rfl, _⟩, _, _, rfl, ⟨till, rfl, _⟩, w, _, rfl, hv, rfl⟩ := hl
  obtain ⟨x, rfl, hx⟩ : ∃ x, w = [x] ∧ (Sh.slice vSh).has x := by
    rcases hv with rfl | ⟨es, rfl, h⟩
    · exact ⟨_, rfl, [.nilSlice], .inl rfl, by simp [Sh.isAgg]⟩
    · exact ⟨_, rfl, [.slice es], .inr ⟨es, rfl, h⟩, by simp [Sh.isAgg]⟩
  obtain ⟨vs, hvs, _, hbl⟩ := has_slice_dec hx fun y => var_dec
  simp only [T.bulk.bulks, T.bulk, List.append_nil, List.cons_append, List.nil_append] at hb
  obtain ⟨b1, b2, b3⟩ := var_bulk vs
  obtain ⟨h', hc⟩ := law7 ⟨id, inst, node, undo, state, left, due, till, x⟩ n hvs ⟨by omega, by omega, fun v hv => by have := b3 v hv; omega⟩ (by simp only; omega)
  obtain ⟨k, hk⟩ := call_some.1 hc
  exact ⟨k, h', hk⟩
end Go.Proofs.Ytccajagfgdchlaa.Kp
