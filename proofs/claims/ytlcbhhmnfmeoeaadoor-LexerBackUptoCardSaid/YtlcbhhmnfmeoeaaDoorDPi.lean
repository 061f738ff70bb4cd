/-
  What strconv.ParseInt(s, 10, 64) answers: out of the library's own proof of it, at this program's numbers.
-/
import Derived.Test.YtlcbhhmnfmeoeaaDoorDCx
import Derived.Shelf.Strconv.ParseIntPublic10
set_option linter.unusedSimpArgs false
set_option linter.unusedVariables false
set_option linter.unusedSectionVars false
namespace Go.Proofs.YtlcbhhmnfmeoeaaDoor
open Vai
open Go.RowKit (Below)
def lays_ren : Go.Shelf.Ren := ⟨fun | 174 => 40 | 247 => 47 | 245 => 48 | 287 => 50 | 279 => 51 | 280 => 52 | 281 => 53 | 282 => 54 | 321 => 55 | 322 => 56 | 316 => 57 | 171 => 59 | 205 => 58 | 243 => 60 | 246 => 61 | 283 => 62 | 284 => 63 | 285 => 64 | 286 => 65 | 129 => 67 | 317 => 66 | 318 => 68 | 319 => 69 | 320 => 70 | 337 => 71 | 338 => 72 | n => n, fun | 9 => 9 | 3 => 3 | 2 => 2 | 75 => 67 | 85 => 68 | 4 => 4 | 167 => 75 | 5 => 5 | 53 => 59 | 175 => 76 | 46 => 64 | 168 => 78 | 37 => 40 | 0 => 0 | 210 => 85 | 21 => 21 | 127 => 88 | 145 => 91 | 143 => 89 | 171 => 93 | 173 => 96 | 212 => 100 | 51 => 81 | 20 => 20 | 213 => 101 | 232 => 105 | 233 => 106 | 80 => 107 | n => n, fun | 15 => 0 | 16 => 1 | 17 => 2 | 18 => 3 | 19 => 4 | n => n⟩
theorem lays : Go.Proofs.LaysC.n174 Tryd.prog lays_ren where
  mixed := by kernel_rfl
  f129 := Tryd.func67.trans (congrArg some (by kernel_rfl))
  f171 := Tryd.func59.trans (congrArg some (by kernel_rfl))
  f174 := Tryd.func40.trans (congrArg some (by kernel_rfl))
  f205 := Tryd.func58.trans (congrArg some (by kernel_rfl))
  f243 := Tryd.func60.trans (congrArg some (by kernel_rfl))
  f245 := Tryd.func48.trans (congrArg some (by kernel_rfl))
  f246 := Tryd.func61.trans (congrArg some (by kernel_rfl))
  f247 := Tryd.func47.trans (congrArg some (by kernel_rfl))
  f279 := Tryd.func51.trans (congrArg some (by kernel_rfl))
  f280 := Tryd.func52.trans (congrArg some (by kernel_rfl))
  f281 := Tryd.func53.trans (congrArg some (by kernel_rfl))
  f282 := Tryd.func54.trans (congrArg some (by kernel_rfl))
  f283 := Tryd.func62.trans (congrArg some (by kernel_rfl))
  f284 := Tryd.func63.trans (congrArg some (by kernel_rfl))
  f285 := Tryd.func64.trans (congrArg some (by kernel_rfl))
  f286 := Tryd.func65.trans (congrArg some (by kernel_rfl))
  f287 := Tryd.func50.trans (congrArg some (by kernel_rfl))
  f316 := Tryd.func57.trans (congrArg some (by kernel_rfl))
  f317 := Tryd.func66.trans (congrArg some (by kernel_rfl))
  f318 := Tryd.func68.trans (congrArg some (by kernel_rfl))
  f319 := Tryd.func69.trans (congrArg some (by kernel_rfl))
  f320 := Tryd.func70.trans (congrArg some (by kernel_rfl))
  f321 := Tryd.func55.trans (congrArg some (by kernel_rfl))
  f322 := Tryd.func56.trans (congrArg some (by kernel_rfl))
  f337 := Tryd.func71.trans (congrArg some (by kernel_rfl))
  f338 := Tryd.func72.trans (congrArg some (by kernel_rfl))
  t0 := Tryd.underlying0
  a0 := Tryd.isAgg0
  z0 := Tryd.sizeOf0
  v0 := Tryd.zeroValue0
  t2 := Tryd.underlying2
  a2 := Tryd.isAgg2
  z2 := Tryd.sizeOf2
  v2 := Tryd.zeroValue2
  t3 := Tryd.underlying3
  a3 := Tryd.isAgg3
  z3 := Tryd.sizeOf3
  v3 := Tryd.zeroValue3
  t4 := Tryd.underlying4
  a4 := Tryd.isAgg4
  z4 := Tryd.sizeOf4
  v4 := Tryd.zeroValue4
  t5 := Tryd.underlying5
  a5 := Tryd.isAgg5
  z5 := Tryd.sizeOf5
  v5 := Tryd.zeroValue5
  t9 := Tryd.underlying9
  a9 := Tryd.isAgg9
  z9 := Tryd.sizeOf9
  v9 := Tryd.zeroValue9
  t20 := Tryd.underlying20
  a20 := Tryd.isAgg20
  z20 := Tryd.sizeOf20
  v20 := Tryd.zeroValue20
  t21 := Tryd.underlying21
  a21 := Tryd.isAgg21
  z21 := Tryd.sizeOf21
  v21 := Tryd.zeroValue21
  t37 := Tryd.underlying40
  a37 := Tryd.isAgg40
  z37 := Tryd.sizeOf40
  v37 := Tryd.zeroValue40
  t46 := Tryd.underlying64
  a46 := Tryd.isAgg64
  z46 := Tryd.sizeOf64
  v46 := Tryd.zeroValue64
  t51 := Tryd.underlying81
  a51 := Tryd.isAgg81
  z51 := Tryd.sizeOf81
  v51 := Tryd.zeroValue81
  t53 := Tryd.underlying59
  a53 := Tryd.isAgg59
  z53 := Tryd.sizeOf59
  v53 := Tryd.zeroValue59
  t75 := Tryd.underlying67
  a75 := Tryd.isAgg67
  z75 := Tryd.sizeOf67
  v75 := Tryd.zeroValue67
  t85 := Tryd.underlying68
  a85 := Tryd.isAgg68
  z85 := Tryd.sizeOf68
  v85 := Tryd.zeroValue68
  t127 := Tryd.underlying88
  a127 := Tryd.isAgg88
  z127 := Tryd.sizeOf88
  v127 := Tryd.zeroValue88
  t143 := Tryd.underlying89
  a143 := Tryd.isAgg89
  z143 := Tryd.sizeOf89
  v143 := Tryd.zeroValue89
  t145 := Tryd.underlying91
  a145 := Tryd.isAgg91
  z145 := Tryd.sizeOf91
  v145 := Tryd.zeroValue91
  t167 := Tryd.underlying75
  a167 := Tryd.isAgg75
  z167 := Tryd.sizeOf75
  v167 := Tryd.zeroValue75
  t168 := Tryd.underlying78
  a168 := Tryd.isAgg78
  z168 := Tryd.sizeOf78
  v168 := Tryd.zeroValue78
  t171 := Tryd.underlying93
  a171 := Tryd.isAgg93
  z171 := Tryd.sizeOf93
  v171 := Tryd.zeroValue93
  t173 := Tryd.underlying96
  a173 := Tryd.isAgg96
  z173 := Tryd.sizeOf96
  v173 := Tryd.zeroValue96
  t175 := Tryd.underlying76
  a175 := Tryd.isAgg76
  z175 := Tryd.sizeOf76
  v175 := Tryd.zeroValue76
  t210 := Tryd.underlying85
  a210 := Tryd.isAgg85
  z210 := Tryd.sizeOf85
  v210 := Tryd.zeroValue85
  t212 := Tryd.underlying100
  a212 := Tryd.isAgg100
  z212 := Tryd.sizeOf100
  v212 := Tryd.zeroValue100
  t213 := Tryd.underlying101
  a213 := Tryd.isAgg101
  z213 := Tryd.sizeOf101
  t232 := Tryd.underlying105
  a232 := Tryd.isAgg105
  z232 := Tryd.sizeOf105
  v232 := Tryd.zeroValue105
  t233 := Tryd.underlying106
  a233 := Tryd.isAgg106
  z233 := Tryd.sizeOf106
  v233 := Tryd.zeroValue106
  g15 := by kernel_rfl
  g16 := by kernel_rfl
  g17 := by kernel_rfl
  g18 := by kernel_rfl
  g19 := by kernel_rfl
  t80 := Tryd.underlying107
  a80 := Tryd.isAgg107
  z80 := Tryd.sizeOf107
  v80 := Tryd.zeroValue107
  i0 := by kernel_rfl
  i2 := by kernel_rfl
  i3 := by kernel_rfl
  i4 := by kernel_rfl
  i5 := by kernel_rfl
  i9 := by kernel_rfl
  i20 := by kernel_rfl
  i21 := by kernel_rfl
  i37 := by kernel_rfl
  i46 := by kernel_rfl
  i51 := by kernel_rfl
  i53 := by kernel_rfl
  i75 := by kernel_rfl
  i80 := by kernel_rfl
  i85 := by kernel_rfl
  i127 := by kernel_rfl
  i143 := by kernel_rfl
  i145 := by kernel_rfl
  i167 := by kernel_rfl
  i168 := by kernel_rfl
  i171 := by kernel_rfl
  i173 := by kernel_rfl
  i175 := by kernel_rfl
  i210 := by kernel_rfl
  i212 := by kernel_rfl
  i232 := by kernel_rfl
  i233 := by kernel_rfl
  m15 := by kernel_rfl
  m16 := by kernel_rfl
  m17 := by kernel_rfl
  m18 := by kernel_rfl
  m19 := by kernel_rfl
  c0 := by kernel_rfl
  c2 := by kernel_rfl
  c3 := by kernel_rfl
  c4 := by kernel_rfl
  c5 := by kernel_rfl
  c9 := by kernel_rfl
  c20 := by kernel_rfl
  c21 := by kernel_rfl
  c37 := by kernel_rfl
  c46 := by kernel_rfl
  c51 := by kernel_rfl
  c53 := by kernel_rfl
  c75 := by kernel_rfl
  c80 := by kernel_rfl
  c85 := by kernel_rfl
  c127 := by kernel_rfl
  c143 := by kernel_rfl
  c145 := by kernel_rfl
  c167 := by kernel_rfl
  c168 := by kernel_rfl
  c171 := by kernel_rfl
  c173 := by kernel_rfl
  c175 := by kernel_rfl
  c210 := by kernel_rfl
  c212 := by kernel_rfl
  c213 := by kernel_rfl
  c232 := by kernel_rfl
  c233 := by kernel_rfl
/-- strconv.ErrSyntax and strconv.ErrRange hold an error, or nil. -/
def errOK (w : World) (g : Nat) : Prop := ∃ ev : Value, w.cell? ⟨g, 0, none⟩ = some ev ∧ (ev = .nilIface ∨ ∃ te pe, ev = .iface te pe)
instance glD : Gl where
  blk k := k = 0 ∨ k = 1
  ok w := errOK w 0 ∧ errOK w 1
  stay w w' h ho := by
    refine ⟨ho.1.elim fun ev he => ⟨ev, ?_, he.2⟩, ho.2.elim fun ev he => ⟨ev, ?_, he.2⟩⟩
    · rw [World.cell?_of_block (h 0 (.inl rfl))]; exact he.1
    · rw [World.cell?_of_block (h 1 (.inr rfl))]; exact he.1
theorem primOK : PrimOK Tryd.prog prim := by
  intro k g hk args h d h' m w vs hr hv hc
  unfold prim at hk
  split at hk
  · rename_i e
    subst e
    cases hk
    unfold parseA at hc
    split at hc
    · rename_i s b z
      split at hc
      · rename_i hcond
        obtain ⟨rfl, rfl, hs⟩ := hcond
        obtain ⟨hl, hv⟩ := hv
        obtain ⟨v0, v1, v2, rfl⟩ : ∃ v0 v1 v2, vs = #[v0, v1, v2] := ⟨vs[0]'(by simp at hl; omega), vs[1]'(by simp at hl; omega), vs[2]'(by simp at hl; omega), by
          refine Array.ext (by simp at hl ⊢; omega) fun i h1 h2 => ?_
          match i, (show i < 3 by simpa using h2) with
          | 0, _ => rfl
          | 1, _ => rfl
          | 2, _ => rfl⟩
        have q0 := (hv 0 _ v0 rfl rfl).1
        have q1 := (hv 1 _ v1 rfl rfl).1
        have q2 := (hv 2 _ v2 rfl rfl).1
        cases q0 with
        | t q0 =>
        cases q1 with
        | t q1 =>
        cases q2 with
        | t q2 =>
        cases q0; cases q1; cases q2
        obtain ⟨⟨e0, g0, k0⟩, ⟨e1, g1, k1⟩⟩ := hr.glob.1
        split at hc
        · rename_i v hp
          cases hc
          refine (Any.strconv_ParseInt_10_at64_ok lays s (by omega) v hp w).mono fun e w' ⟨he, hw⟩ => ⟨_, m, he, ?_⟩
          have hb : Below w.heap.size w w' := by
            rcases hw with rfl | ⟨t, rfl⟩
            · exact Below.refl _ _
            · exact Lib.bytesWorld_below _ _ _
          refine .of_below hr hb (.tup rfl fun i d' v' hd hv => ?_) rfl
          match i with
          | 0 => simp at hd hv; subst hd; subst hv; exact .t (.int _ _)
          | 1 => simp at hd hv; subst hd; subst hv; exact .t .nilIface
          | i + 2 => simp at hd
        · rename_i hp
          have hcs : d = .tup [.undef, .iface 78 .undef] ∧ h' = h := by
            simp only [Option.some.injEq, Prod.mk.injEq] at hc
            exact ⟨hc.1.symm, hc.2.symm⟩
          obtain ⟨rfl, rfl⟩ := hcs
          have fin : ∀ (x : Value) (N : Nat) (w' : World), Below w.heap.size w w' → Eff m w h' (.tup [.undef, .iface 78 .undef]) (.tuple #[x, .iface 78 (.pointer (some ⟨N, 0, none⟩))]) w' h' m := fun x N w' hb => by
            refine .of_below hr hb (.tup rfl fun i d' v' hd hv => ?_) rfl
            match i with
            | 0 => simp at hd hv; subst hd; subst hv; exact .undef _
            | 1 => simp at hd hv; subst hd; subst hv; exact .iface (.undef _)
            | i + 2 => simp at hd
          rcases hpp : Lib.parseIntB 64 s.data.toList with v | _ | _
          · exact absurd hpp (hp v)
          · refine (Any.strconv_ParseInt_10_at64_syntax lays s (by omega) hpp e0 w g0 k0).mono fun e w' ⟨N, he, _, _, hb⟩ => ?_
            exact ⟨_, m, he, fin _ N w' hb⟩
          · refine (Any.strconv_ParseInt_10_at64_range lays s (by omega) hpp e1 w g1 k1).mono fun e w' ⟨N, he, _, _, hb⟩ => ?_
            exact ⟨_, m, he, fin _ N w' hb⟩
      · cases hc
    · cases hc
  · cases hk
end Go.Proofs.YtlcbhhmnfmeoeaaDoor
