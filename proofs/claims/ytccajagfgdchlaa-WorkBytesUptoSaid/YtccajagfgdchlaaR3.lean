import Derived.Test.YtccajagfgdchlaaR2
set_option linter.unusedSimpArgs false
set_option linter.unusedVariables false
set_option linter.unusedSectionVars false
namespace Go.Proofs.Ytccajagfgdchlaa
open Vai
set_option maxHeartbeats 0
theorem ba_self (s : ByteArray) : (⟨s.data.toList.toArray⟩ : ByteArray) = s := by cases s; simp
structure Fld where
  kind : Int
  n : Int
  s : ByteArray
  x : Bool
abbrev Fld.t (f : Fld) : T := .agg [.int .i64 f.kind, .int .i64 f.n, .str f.s, .bool f.x]
def Fld.enc (f : Fld) : List UInt8 := if f.kind = 1 then be8 f.n else if f.kind = 2 then be8 f.s.size ++ f.s.data.toList else [if f.x then 1 else 0]
def encs (l : List Fld) : List UInt8 := l.flatMap Fld.enc
theorem encs_snoc (l : List Fld) (f : Fld) : encs (l ++ [f]) = encs l ++ f.enc := by simp [encs]
theorem intR_enc (A R : List UInt8) (n : Int) (h1 : -9223372036854775808 ≤ n) (h2 : n ≤ 9223372036854775807) : intR (A ++ (be8 n ++ R)) A.length false = (n, A.length + 8, false) := by
  unfold intR
  rw [if_neg (by simp [bek_len]), List.drop_left, List.take_append_of_le_length (by simp [bek_len]), List.take_of_length_le (by simp [bek_len]), val_be8 n h1 h2]
theorem textR_enc (A R : List UInt8) (s : ByteArray) (h : s.size ≤ 2000000) : textR (A ++ (be8 s.size ++ (s.data.toList ++ R))) A.length false = (s.data.toList, A.length + 8 + s.size, false) := by
  have hsz : s.data.toList.length = s.size := by simp
  unfold textR
  rw [intR_enc A _ s.size (by omega) (by omega)]
  simp only [takeR]
  have e : A.length + 8 = (A ++ be8 s.size).length := by simp [bek_len]
  have hl : (A ++ (be8 ↑s.size ++ (s.data.toList ++ R))).length = A.length + 8 + s.size + R.length := by simp [bek_len]; omega
  rw [if_neg (by rw [hl]; simp; omega)]
  have hd : (A ++ (be8 ↑s.size ++ (s.data.toList ++ R))).drop (A.length + 8) = s.data.toList ++ R := by
    rw [e, ← List.append_assoc, List.drop_left]
  rw [hd, Int.toNat_natCast, List.take_append_of_le_length (by omega), List.take_of_length_le (by omega)]
theorem boolR_enc (A R : List UInt8) (x : Bool) : boolR (A ++ ([if x then (1 : UInt8) else 0] ++ R)) A.length false = (x, A.length + 1, false) := by
  unfold boolR
  rw [if_neg (by simp)]
  have : (A ++ ([if x then (1 : UInt8) else 0] ++ R)).getD A.length 0 = if x then 1 else 0 := by simp [List.getD_eq_getElem?_getD]
  rw [this]
  cases x <;> rfl
def bulkF (l : List Fld) : Nat := (l.map fun f => f.s.size).sum
theorem enc_len (f : Fld) : f.enc.length ≤ 8 + f.s.size := by
  have hsz : f.s.data.toList.length = f.s.size := by simp
  unfold Fld.enc
  split
  · simp [bek_len]
  · split
    · simp [bek_len]
    · simp; omega
theorem encs_len (l : List Fld) : (encs l).length ≤ 8 * l.length + bulkF l := by
  induction l with
  | nil => simp [encs]
  | cons f l ih =>
    have h1 := enc_len f
    have h2 : encs (f :: l) = f.enc ++ encs l := rfl
    have h3 : bulkF (f :: l) = f.s.size + bulkF l := by simp [bulkF]
    rw [h2, h3, List.length_append, List.length_cons]
    omega
theorem bulkF_take (l : List Fld) (k : Nat) : bulkF (l.take k) ≤ bulkF l := by
  induction l generalizing k with
  | nil => simp
  | cons f l ih =>
    cases k with
    | zero => simp [bulkF]
    | succ k =>
      have := ih k
      simp only [bulkF, List.take_succ_cons, List.map_cons, List.sum_cons] at this ⊢
      omega
theorem take_snoc {α : Type} {l : List α} {k : Nat} {x : α} (h : l[k]? = some x) : l.take (k + 1) = l.take k ++ [x] := by
  rw [List.take_add_one, h]
  rfl
theorem bulkF_mem {l : List Fld} {k : Nat} {f : Fld} (h : l[k]? = some f) : f.s.size ≤ bulkF l := by
  induction l generalizing k with
  | nil => simp at h
  | cons g l ih =>
    simp only [bulkF, List.map_cons, List.sum_cons] at ih ⊢
    cases k with
    | zero => simp at h; subst h; omega
    | succ k =>
      have := ih (k := k) (by simpa using h)
      omega

/-- The loop that lays the fields. -/
theorem loop8a {x : T} {fs : List Fld} (hx : Slice x (fs.map Fld.t)) (hlen : fs.length ≤ 1000) (hb : bulkF fs ≤ 1200000) (st : St) (hn : st.n = 121) (hh : st.h = .empty) (e0 : st.env 0 = .t x) (e5 : st.env 5 = .t .nilSlice) (e6 : st.env 6 = .t (.int .i64 0)) {y : D} (e1 : st.env 1 = y) :
    ∃ st', loopω (LB cx prim 8 Try.f8 0) st = some (.exit 0, st') ∧ st'.n = 121 ∧ st'.h = .empty ∧ st'.env 0 = .t x ∧ st'.env 1 = y ∧ st'.env 5 = .t (sl (ub (encs fs))) := by
  have hlx := fun hh => hx.len (P := Try.prog) (t := 60) tk60 hh
  rw [List.length_map] at hlx
  obtain ⟨x', st', hL, rfl, h⟩ := loop_up (f := LB cx prim 8 Try.f8 0) (st := st) fs.length
    (fun k st => st.n = 121 ∧ st.h = .empty ∧ st.env 0 = .t x ∧ st.env 1 = y ∧ st.env 5 = .t (sl (ub (encs (fs.take k)))) ∧ st.env 6 = .t (.int .i64 k))
    (fun x' st => x' = .exit 0 ∧ st.n = 121 ∧ st.h = .empty ∧ st.env 0 = .t x ∧ st.env 1 = y ∧ st.env 5 = .t (sl (ub (encs fs))))
    ⟨hn, hh, e0, e1, by simpa [encs, ub, sl_nil] using e5, e6⟩ (by
    rintro k ⟨nn, env, h⟩ hk ⟨rfl, rfl, e0, e1, e5, e6⟩
    simp only at e0 e1 e5 e6
    rw [LB_run nd8 rfl]
    by_cases hk' : k < fs.length
    · obtain ⟨f, hf⟩ : ∃ f, fs[k]? = some f := ⟨fs[k], by simp [hk']⟩
      have hxe : x = .slice (fs.map Fld.t) := hx.eq_of_ne (by intro e; have := congrArg List.length e; simp at this; subst this; simp at hk')
      subst hxe
      have hget : (fs.map Fld.t)[k]? = some f.t := by simp [hf]
      have hl := encs_len (fs.take k)
      have hl2 := bulkF_take fs k
      have hl3 : (fs.take k).length = k := by simp; omega
      have hfb := bulkF_mem hf
      rw [hl3] at hl
      have hs := sl_slice (ub (encs (fs.take k)))
      have hsn : encs (fs.take (k + 1)) = encs (fs.take k) ++ f.enc := by rw [take_snoc hf, encs_snoc]
      rw [hsn]
      by_cases k1 : f.kind = 1
      · obtain ⟨_, q⟩ := s13 f.n hs (by omega)
        have c13 := fun h => pureNew (cc := cx.at 8) (h := h) cb13 (by simp [md]) q rfl
        simp -implicitDefEqProofs (disch := omega) [e0, e1, e5, e6, hget, k1, c13, Fld.enc, hk']
      · by_cases k2 : f.kind = 2
        · obtain ⟨_, q⟩ := s14 f.s hs (by omega) (by omega)
          have c14 := fun h => pureNew (cc := cx.at 8) (h := h) cb14 (by simp [md]) q rfl
          simp -implicitDefEqProofs (disch := omega) [e0, e1, e5, e6, hget, k2, c14, Fld.enc, hk']
        · obtain ⟨_, q⟩ := s15 f.x hs (by omega)
          have c15 := fun h => pureNew (cc := cx.at 8) (h := h) cb15 (by simp [md]) q rfl
          simp -implicitDefEqProofs (disch := omega) [e0, e1, e5, e6, hget, k1, k2, c15, Fld.enc, hk']
    · obtain rfl : k = fs.length := by omega
      simp -implicitDefEqProofs (disch := omega) [e0, e1, e5, e6, hlx])
  exact ⟨st', hL, h⟩
end Go.Proofs.Ytccajagfgdchlaa
