import Derived.Test.YtlcbhhmnfmeoeaaDoorDN6
set_option linter.unusedSimpArgs false
set_option linter.unusedVariables false
set_option linter.unusedSectionVars false
namespace Go.Proofs.YtlcbhhmnfmeoeaaDoor
open Vai
set_option maxHeartbeats 0
abbrev sepsT : List T := [.str ⟨#[32]⟩, .str ⟨#[9]⟩, .str ⟨#[10, 32]⟩, .str ⟨#[13, 10]⟩]
theorem wr_len {t : Tk} (hg : GoodT t) : (wr t).length ≤ 256 := by
  unfold wr
  rcases hg with ⟨h1, h2, n, h3, h4⟩ | ⟨h1, h2, h3, h4⟩ | ⟨h1, h2, h3, _⟩ | ⟨h1, h2, h3⟩
  · rw [if_pos h1, h3]
    unfold decL
    rw [if_neg (by omega)]
    have := dig_len (n := n) (k := 19) (by omega) (by omega)
    simp only [Int.natAbs_natCast]
    omega
  · rw [if_neg (by omega), if_pos h1]
    have := esc_len t.text.data.toList
    rw [len_bytes] at this
    simp only [List.length_cons, List.length_append, List.length_nil]
    omega
  · rw [if_neg (by omega), if_neg (by omega), len_bytes]
    exact h3
  · rw [if_neg (by omega), if_neg (by omega)]
    rcases h3 with ⟨x, y, h3, _⟩ | ⟨x, h3, _⟩ <;> rw [h3] <;> simp
theorem cat_len {sep : List UInt8} (hs : sep.length ≤ 2) : ∀ {l : List Tk}, (∀ t ∈ l, GoodT t) → (catT sep l).length ≤ 258 * l.length
  | [], _ => by simp [catT]
  | t :: l, h => by
    have h1 := wr_len (h t List.mem_cons_self)
    have h2 := cat_len hs (l := l) fun t ht => h t (List.mem_cons_of_mem _ ht)
    have e : catT sep (t :: l) = wr t ++ sep ++ catT sep l := by simp [catT]
    rw [e]
    simp only [List.length_append, List.length_cons]
    omega
theorem cat_take {sep : List UInt8} {l : List Tk} {k : Nat} {t : Tk} (h : l[k]? = some t) : catT sep (l.take (k + 1)) = catT sep (l.take k) ++ wr t ++ sep := by
  have hlt : k < l.length := by
    apply Classical.byContradiction
    intro hn
    rw [List.getElem?_eq_none (by omega)] at h
    cases h
  rw [List.take_succ_eq_append_getElem hlt]
  rw [List.getElem?_eq_getElem hlt] at h
  rw [Option.some.inj h]
  simp [catT]
theorem l4 {l : List Tk} {x : T} {b : Nat} {sep : List UInt8} (hb : b < 256) (hx : Slice x (l.map Tk.t)) (hlen : l.length ≤ 256) (hg : ∀ t ∈ l, GoodT t) (hsel : sepsT[b % 4]? = some (.str ⟨sep.toArray⟩)) (hsl : sep.length ≤ 2) {st : St} {r : CR} (hLp : loopω (LB cx prim 4 Tryd.f4 0) st = r) (en : st.n = 66) (e1 : st.env 1 = .t (.int .u8 b)) (e5 : st.env 5 = .t x) (e8 : st.env 8 = .t (.slice sepsT)) (e9 : st.env 9 = .t (.str ⟨#[]⟩)) (e10 : st.env 10 = .t (.int .i64 0)) :
    ∃ x' st', r = some (x', st') ∧ x' = .exit 0 ∧ st'.n = 66 ∧ st'.env 5 = .t x ∧ st'.env 9 = .t (.str ⟨(catT sep l).toArray⟩) := by
  have hlx := fun hh => hx.len (P := Tryd.prog) (t := 22) tk22 hh
  simp only [List.length_map] at hlx
  refine loop_uses hLp l.length (fun k st => st.n = 66 ∧ st.env 1 = .t (.int .u8 b) ∧ st.env 5 = .t x ∧ st.env 8 = .t (.slice sepsT) ∧ st.env 9 = .t (.str ⟨(catT sep (l.take k)).toArray⟩) ∧ st.env 10 = .t (.int .i64 k)) _ ⟨en, e1, e5, e8, e9, e10⟩ ?_
  rintro k ⟨nn, env, h2⟩ hk ⟨rfl, e1, e5, e8, e9, e10⟩
  simp only at e1 e5 e8 e9 e10
  rw [LB_run nd4 rfl]
  by_cases hk' : k < l.length
  · obtain ⟨t, ht⟩ : ∃ t, l[k]? = some t := ⟨l[k], by simp [hk']⟩
    have hxe : x = .slice (l.map Tk.t) := hx.eq_of_ne (by intro e; have := congrArg List.length e; simp at this; subst this; simp at hk')
    subst hxe
    have ht' : (l.map Tk.t)[k]? = some t.t := by rw [List.getElem?_map, ht]; rfl
    have hgt := hg t (List.mem_of_getElem? ht)
    have q13 := fun h => c13 (c := 4) (t := t) h hgt rfl
    have hcl := cat_len hsl (l := l.take k) fun t ht => hg t (List.mem_of_mem_take ht)
    simp only [List.length_take] at hcl
    have hwl := wr_len hgt
    have hct := cat_take (sep := sep) ht
    have hs1 := size_list (catT sep (l.take k))
    have hs2 := size_list (wr t)
    have hs3 := size_list sep
    have hp1 : (⟨(catT sep (l.take k)).toArray⟩ : ByteArray).size + (⟨(wr t).toArray⟩ : ByteArray).size ≤ 9223372036854775807 := by omega
    have hp2 : (⟨(catT sep (l.take k)).toArray⟩ : ByteArray).size + (⟨(wr t).toArray⟩ : ByteArray).size + (⟨sep.toArray⟩ : ByteArray).size ≤ 9223372036854775807 := by omega
    have happ : (⟨(catT sep (l.take k)).toArray⟩ : ByteArray) ++ ⟨(wr t).toArray⟩ ++ ⟨sep.toArray⟩ = ⟨(catT sep (l.take (k + 1))).toArray⟩ := by
      apply ByteArray.ext
      rw [hct]
      simp [ByteArray.data_append]
    have t1 := tmod_pos' (a := (b : Int)) (b := 4) (by omega)
    have t2 : ((b : Int) % 4).toNat = b % 4 := by omega
    have hia : ∀ h, indexAddrD Tryd.prog h 33 (.t (.slice sepsT)) (.t (.int .i64 ((b : Int) % 4))) = some (.eptr (.str ⟨sep.toArray⟩) 0) := fun h => by
      have h0 : (0 : Int) ≤ (b : Int) % 4 := by omega
      simp only [indexAddrD]
      rw [if_pos h0]
      simp only [tk33, t2, hsel]
      simp
    simp only [Tk.t] at ht' q13
    generalize hA : (⟨(catT sep (l.take k)).toArray⟩ : ByteArray) = A at *
    generalize hB : (⟨(wr t).toArray⟩ : ByteArray) = B at *
    generalize hC : (⟨sep.toArray⟩ : ByteArray) = C at *
    generalize hD : (⟨(catT sep (l.take (k + 1))).toArray⟩ : ByteArray) = E at *
    simp -implicitDefEqProofs (disch := omega) [-List.getElem?_map, hlx, e1, e5, e8, e9, e10, ht', q13, Wp_some, t1, hp1, hp2, happ, hia]
    exact hk'
  · obtain rfl : k = l.length := by omega
    rw [List.take_length] at e9
    simp -implicitDefEqProofs (disch := omega) [hlx, e1, e5, e8, e9, e10, Wp_some]
theorem law4 (s : ByteArray) (b : Nat) (hs : s.size ≤ 10000000) (hb : b < 256) : ∃ h', call cx prim 4 [.t (.str s), .t (.int .u8 b)] .empty = some (.t (.bool true), h') := by
  rw [call_run rfl Tryd.func4 ok4 nd4 rfl (Nat.le_of_ble_eq_true rfl) rfl rfl]
  have q11 := fun h => c11 (c := 4) h rfl
  obtain ⟨x, hx, q9⟩ := c9 (c := 4) s (by omega) rfl
  have hlen := lexS_len s
  have hgood := lexS_good s
  generalize hlx : lexS s = res at hx q9 hlen hgood
  obtain ⟨l, a, w⟩ := res
  simp only at hx q9 hlen hgood
  by_cases hw : w = 0
  · subst hw
    obtain ⟨sep, hsel, hsl, hne, hbl⟩ : ∃ sep : List UInt8, sepsT[b % 4]? = some (.str ⟨sep.toArray⟩) ∧ sep.length ≤ 2 ∧ sep ≠ [] ∧ ∀ c ∈ sep, blankB c.toNat = true := by
      have h4 : b % 4 = 0 ∨ b % 4 = 1 ∨ b % 4 = 2 ∨ b % 4 = 3 := by omega
      rcases h4 with h | h | h | h <;> rw [h]
      · exact ⟨[32], rfl, by decide, by decide, by decide⟩
      · exact ⟨[9], rfl, by decide, by decide, by decide⟩
      · exact ⟨[10, 32], rfl, by decide, by decide, by decide⟩
      · exact ⟨[13, 10], rfl, by decide, by decide, by decide⟩
    have lemL := fun (st : St) (r : CR) => l4 (l := l) (x := x) (b := b) (sep := sep) hb hx hlen hgood hsel hsl (st := st) (r := r)
    simp -implicitDefEqProofs (disch := omega) [q9, q11, litSliceD, List.replicate]
    generalize hLp : loopω (LB cx prim 4 Tryd.f4 0) _ = R
    obtain ⟨x', ⟨nn, env, h2⟩, rfl, rfl, rfl, e5, e9⟩ := lemL _ _ hLp rfl (by simp) (by simp) (by simp) (by simp) (by simp)
    simp only at e5 e9
    clear hLp lemL
    have hcl := cat_len hsl hgood
    have hsz := size_list (catT sep l)
    by_cases hbig : 256 < (catT sep l).length
    · have hbg := lexS_big (s := ⟨(catT sep l).toArray⟩) (by omega)
      obtain ⟨y, hy, q9b⟩ := q9_nil (c := 4) (by omega) hbg rfl
      generalize (⟨(catT sep l).toArray⟩ : ByteArray) = A at *
      have c1 : (256 : Int) < A.size := by omega
      simp -implicitDefEqProofs (disch := omega) [e5, e9, q9b]
    · obtain ⟨l', h1, h2', h3⟩ := lexS_cat hne hbl hgood (by omega)
      obtain ⟨y, hy, q9b⟩ := c9 (c := 4) ⟨(catT sep l).toArray⟩ (by omega) rfl
      rw [h1] at hy q9b
      have q12 := fun h => c12 (c := 4) (p := false) (x := .t x) (y := .t y) h h2'.symm (by omega) (fun k a b ha hb => by
        obtain ⟨g1, g2, g3⟩ := h3 k a b ha hb
        exact ⟨g1, g2, g3, fun h => by cases h⟩) rfl (snap_t _ _) hx (snap_t _ _) hy
      simp only at q9b
      generalize (⟨(catT sep l).toArray⟩ : ByteArray) = A at *
      have c1 : ¬ (256 : Int) < A.size := by omega
      simp -implicitDefEqProofs (disch := omega) [e5, e9, q9b, q12]
  · have hw' : eqI w 0 = false := eqI_false hw
    simp -implicitDefEqProofs (disch := omega) [q9, q11, hw']
end Go.Proofs.YtlcbhhmnfmeoeaaDoor
