import Derived.Test.YtlcbhhmnfmeoeaaDoorU2
import Derived.Test.YtlcbhhmnfmeoeaaDoorDL2
set_option linter.unusedSimpArgs false
set_option linter.unusedVariables false
set_option linter.unusedSectionVars false
namespace Go.Proofs.YtlcbhhmnfmeoeaaDoor
open Vai
set_option maxHeartbeats 0
/-- What a reading of a token leaves. -/
def Steps (n : Nat) (h : H) (L : Nat) (s : ByteArray) (ts : List T) (r : Option (D × H)) : Except (Nat × Int) (Tk × Nat) → Prop
  | .ok (t, j) => ∃ h', r = some (.tup [.t (.int .i64 0), .t (.int .i64 0)], h') ∧ LX n h' L s j (ts ++ [t.t]) ∧ Fr n h h'
  | .error (a, w) => ∃ h', r = some (.tup [.t (.int .i64 a), .t (.int .i64 w)], h') ∧ Fr n h h'
theorem c40 {c : FuncId} (s : ByteArray) (h : H) (hs : s.size ≤ 1000000000) : callD (cx.at c) (call cx prim) 40 [.t (.str s), .t (.int .i64 10), .t (.int .i64 64)] h = match Lib.parseIntB 64 s.data.toList with
    | .ok v => some (.tup [.t (.int .i64 v), .t .nilIface], h)
    | _ => some (.tup [.undef, .iface 78 .undef], h) := by
  refine keepT cb40 (by simp [md]) ?_
  rw [call_prim (g := parseA) rfl]
  simp only [parseA, hs, and_self, if_true]
  cases Lib.parseIntB 64 s.data.toList <;> rfl
theorem lx_isAt {n : Nat} {h : H} {L : Nat} {s : ByteArray} {i : Nat} {ts : List T} (hl : LX n h L s i ts) : ∃ d, h.objs L = some (lxO s i d) := hl.2.2.2.2.elim fun d hd => ⟨d, hd.1⟩
theorem s31 {n : Nat} {h : H} {L : Nat} {s : ByteArray} {i : Nat} {ts : List T} (hl : LX n h L s i ts) (hlen : ts.length ≤ 1000000) (hs : s.size ≤ 1000000) (hi : i < s.size) (hd : digitB (bt s i) = true) :
    Steps n h L s ts (call cx prim 31 [.ptr L 0 0 1] h) (match numS (cut s i (runTo digitB s i)) with
      | some n => .ok (⟨1, noText, n, i⟩, runTo digitB s i)
      | none => .error (i, 122)) := by
  rw [call_run rfl Tryd.func31 ok31 nd31 rfl (Nat.le_of_ble_eq_true rfl) rfl rfl]
  obtain ⟨d, ho, hl2, hfr⟩ := hl.move (runTo digitB s i)
  have w := fun (h : H) (ho : h.objs L = some (lxO s i d)) => keepT (cc := cx.at 31) cb18 (by simp [md]) (s18 (p := 30) (fun b h => c30 b h rfl) ho (by omega) (by omega))
  have hge := runTo_ge digitB s (i + 1)
  rw [runTo_step hi hd] at hge
  have hle := runTo_le (p := digitB) (s := s) (i := i) (by omega)
  have hall := cut_all (p := digitB) (s := s) (i := i)
  have hcl := cut_len (i := i) hle
  rw [extract_cut (by omega)] at w
  generalize runTo digitB s i = j at w hge hle hl2 hfr hall hcl
  generalize hcs : cut s i j = l at w hall hcl
  have hne : l ≠ [] := fun e => by rw [e] at hcl; simp at hcl; omega
  have hsz : (⟨l.toArray⟩ : ByteArray).size = l.length := by simp [ByteArray.size]
  have hpi := c40 (c := 31) ⟨l.toArray⟩ (h.set L (lxO s j d)) (by rw [hsz]; omega)
  have hdl : (⟨l.toArray⟩ : ByteArray).data.toList = l := rfl
  rw [hdl, parse_digits hne hall] at hpi
  have hg0 : ∃ b, l[0]? = some b := by
    cases l with
    | nil => exact absurd rfl hne
    | cons b l => exact ⟨b, rfl⟩
  obtain ⟨b0, hb0⟩ := hg0
  have hb1 : ∀ (h : 0 < l.length), l[0] = b0 := fun h => by rw [List.getElem?_eq_getElem h] at hb0; exact Option.some.inj hb0
  have hgd : (l.getD 0 0) = b0 := by rw [List.getD_eq_getElem?_getD, hb0]; rfl
  unfold numS
  rw [hgd]
  by_cases h1 : dval l < 9223372036854775808
  · rw [if_pos h1] at hpi
    simp only at hpi
    by_cases h2 : 1 < l.length
    · have h2' : (1 : Int) < l.length := by omega
      by_cases h3 : b0.toNat = 48
      · rw [if_neg (fun h => h.2 ⟨h2, h3⟩)]
        simp only [Steps]
        simp -implicitDefEqProofs (disch := omega) [-storeD, -load_ptr, -nilCheckD, -fieldAddrD, -H.els, lx_s ho, lx_at ho, lx_nil ho, lx_f0 ho, lx_f1 ho, w h ho, hpi, hsz, hb0, hb1, h3, h2']
        exact hfr
      · rw [if_pos ⟨h1, fun h => h3 h.2⟩]
        obtain ⟨h', q, q2, q3, _⟩ := c33 (c := 31) hl2 hlen ⟨1, noText, dval l, i⟩
        simp only [Tk.t, noText] at q
        have h3' : eqI (b0.toNat : Int) 48 = false := eqI_false (by omega)
        simp only [Steps]
        simp -implicitDefEqProofs (disch := omega) [-storeD, -load_ptr, -nilCheckD, -fieldAddrD, -H.els, lx_s ho, lx_at ho, lx_nil ho, lx_f0 ho, lx_f1 ho, w h ho, hpi, hsz, hb0, hb1, h3', h2', q]
        exact ⟨q2, hfr.trans q3⟩
    · rw [if_pos ⟨h1, fun h => h2 h.1⟩]
      have h2' : ¬ (1 : Int) < l.length := by omega
      obtain ⟨h', q, q2, q3, _⟩ := c33 (c := 31) hl2 hlen ⟨1, noText, dval l, i⟩
      simp only [Tk.t, noText] at q
      simp only [Steps]
      simp -implicitDefEqProofs (disch := omega) [-storeD, -load_ptr, -nilCheckD, -fieldAddrD, -H.els, lx_s ho, lx_at ho, lx_nil ho, lx_f0 ho, lx_f1 ho, w h ho, hpi, hsz, h2', q]
      exact ⟨q2, hfr.trans q3⟩
  · rw [if_neg h1] at hpi
    simp only at hpi
    rw [if_neg (fun h => h1 h.1)]
    simp only [Steps]
    simp -implicitDefEqProofs (disch := omega) [-storeD, -load_ptr, -nilCheckD, -fieldAddrD, -H.els, lx_s ho, lx_at ho, lx_nil ho, lx_f0 ho, lx_f1 ho, w h ho, hpi, hsz]
    exact hfr
theorem s43 {h : H} {L B : Nat} {s : ByteArray} {i : Nat} {d : D} (ho : h.objs L = some (lxO s i d)) (hB : h.objs B = some (.row 48 1 [.ptr L 0 0 1])) (hs : s.size ≤ 1000000) (hi : i < s.size) (x : ByteArray) (hx : x.size ≤ 1000) :
    call cx prim 43 [.t (.str x), .ptr B 0 0 1] h = some (.t (.bool (atS s i x)), h) := by
  rw [call_run rfl Tryd.func43 ok43 nd43 rfl (Nat.le_of_ble_eq_true rfl) rfl rfl]
  have lB : loadD Tryd.prog h 48 (.ptr B 0 0 1) = some (.ptr L 0 0 1) := by simp [loadD, H.els, hB]
  unfold atS
  by_cases h1 : i + x.size ≤ s.size
  · have g1 : (x.size : Int) ≤ s.size - i := by omega
    have g2 := sl_str (s := s) (a := i) (b := (i : Int) + x.size)
    have g3 : ((i : Int) + x.size).toNat = i + x.size := by omega
    simp -implicitDefEqProofs (disch := omega) [-storeD, -load_ptr, -nilCheckD, -fieldAddrD, -H.els, lx_s ho, lx_at ho, lx_nil ho, lx_f0 ho, lx_f1 ho, lB, g2, g3, h1]
  · have g1 : ¬ (x.size : Int) ≤ s.size - i := by omega
    simp -implicitDefEqProofs (disch := omega) [-storeD, -load_ptr, -nilCheckD, -fieldAddrD, -H.els, lx_s ho, lx_at ho, lx_nil ho, lx_f0 ho, lx_f1 ho, lB, h1]
theorem c43 {c : FuncId} {h : H} {L B : Nat} {s : ByteArray} {i : Nat} {d : D} (ho : h.objs L = some (lxO s i d)) (hB : h.objs B = some (.row 48 1 [.ptr L 0 0 1])) (hs : s.size ≤ 1000000) (hi : i < s.size) (x : ByteArray) (hx : x.size ≤ 1000) :
    callD (cx.at c) (call cx prim) 43 [.t (.str x), .ptr B 0 0 1] h = some (.t (.bool (atS s i x)), h) := keepT cb43 (by simp [md]) (s43 ho hB hs hi x hx)
theorem s42 {h : H} {L B : Nat} {s : ByteArray} {i : Nat} {d : D} (ho : h.objs L = some (lxO s i d)) (hB : h.objs B = some (.row 48 1 [.ptr L 0 0 1])) (hs : s.size ≤ 1000000) (hi : i < s.size) (xs : List ByteArray) (hx : ∀ x ∈ xs, x.size ≤ 1000) (hxl : xs.length ≤ 1000) :
    call cx prim 42 [.t (.slice (xs.map .str)), .func (.func 43) [] [.ptr B 0 0 1]] h = some (.t (.int .i64 (match xs.findIdx? (atS s i) with | some k => (k : Int) | none => -1)), h) := by
  rw [call_run rfl Tryd.func42 ok42 nd42 rfl (Nat.le_of_ble_eq_true rfl) rfl rfl]
  simp -implicitDefEqProofs (disch := omega) []
  generalize hLp : loopω _ _ = R
  obtain ⟨x, ⟨nn, env, h2⟩, rfl, rfl, rfl, hx2⟩ := loop_uses hLp xs.length
    (fun k st => st.n = 19 ∧ st.h = h ∧ st.env 0 = .t (.slice (xs.map .str)) ∧ st.env 1 = .func (.func 43) [] [.ptr B 0 0 1] ∧ st.env 7 = .t (.int .i64 xs.length) ∧ st.env 8 = .t (.int .i64 k) ∧ xs.findIdx? (atS s i) = ((xs.drop k).findIdx? (atS s i)).map (· + k))
    (fun x st => st.n = 19 ∧ st.h = h ∧ ((x = .exit 0 ∧ xs.findIdx? (atS s i) = none) ∨ ∃ k : Nat, x = .ret ∧ xs.findIdx? (atS s i) = some k ∧ st.env 4 = .t (.int .i64 k)))
    (by refine ⟨rfl, rfl, by simp, by simp, by simp, by simp, by simp⟩) (by
    rintro k ⟨nn, env, h2⟩ hk ⟨rfl, rfl, e0, e1, e7, e8, hf⟩
    simp only at e0 e1 e7 e8
    rw [LB_run nd42 rfl]
    by_cases hk' : k < xs.length
    · have hget : xs[k]? = some xs[k] := List.getElem?_eq_getElem hk'
      have q := c43 (c := 42) ho hB hs hi xs[k] (hx _ (List.getElem_mem hk'))
      rw [List.drop_eq_getElem_cons hk', List.findIdx?_cons] at hf
      cases ha : atS s i xs[k] with
      | true =>
        rw [ha] at q hf
        simp only [if_true, Option.map_some, Nat.zero_add] at hf
        simp -implicitDefEqProofs (disch := omega) [e0, e1, e7, e8, hget, q, Wp_some, hf]
      | false =>
        rw [ha] at q hf
        simp -implicitDefEqProofs (disch := omega) [e0, e1, e7, e8, hget, q, Wp_some]
        refine ⟨by omega, ?_⟩
        rw [hf]
        simp only [Bool.false_eq_true, if_false, Option.map_map]
        congr 1
        funext x
        simp only [Function.comp]
        omega
    · obtain rfl : k = xs.length := by omega
      simp at hf
      simp -implicitDefEqProofs (disch := omega) [e0, e1, e7, e8, Wp_some]
      simpa using hf)
  rcases hx2 with ⟨rfl, hf⟩ | ⟨k, rfl, hf, e4⟩
  · rw [hf]
    simp -implicitDefEqProofs (disch := omega) []
  · rw [hf]
    simp only at e4
    simp -implicitDefEqProofs (disch := omega) [e4]
end Go.Proofs.YtlcbhhmnfmeoeaaDoor
