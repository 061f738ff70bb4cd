/- What is handed in stays as it was and isn't kept, and what is answered is new memory: the law OctetKeeps answers true. Conditions: the arguments hold together at most 1048576 values and letters. -/
import Derived.Test.YtccajagfgdchlaaA5
import Derived.Test.YtccajagfgdchlaaFin
import Derived.WalkKit
import Derived.ProofKit
import Derived.OpenShut
import Derived.JoinedCond
set_option linter.unusedSimpArgs false
set_option linter.unusedVariables false
namespace Go.Proofs.Ytccajagfgdchlaa
open Vai
open Go.ChangeShapes Go.WideShapes Go.ChangeAt Go.RowKit
theorem shape5 : allM (shapeOf Try.prog 8) Try.f5.params.toList = some [.slice (.int .u8), .int .i64] := by kernel_rfl
theorem read5 : (Try.f5.params.toList.all fun t => Try.prog.readableRec t && decide (t < Try.prog.types.size)) = true := by kernel_rfl
theorem res5 : Try.f5.resultTypes = #[4] := rfl
set_option maxRecDepth 100000 in
theorem contract5 (H : Type) (enc : TypeId × Value → H) (W : World) (base : Nat) (args : Array Value) (ds gs : List (DataW H)) (before : List MemPlace)
    (hval : ∀ (j : Nat) t v, Try.f5.params[j]? = some t → args[j]? = some v → Value.okWide Try.prog W .any base t v)
    (hW : DataW.Whole enc Try.prog Try.f5.params.toList Rows.octetKeepsSpec.vars false W args.toList ds gs before) (hk : Rows.uptoSmall H (ds ++ gs) = true) :
    Calls Try.prog 5 args W fun e W' => ∃ v, e = .returned v ∧ Rows.octetKeepsSpec.post enc Try.prog Try.f5 false true false false W args v W' := by
  have hs := small_le hk
  have hsp : ∀ ds : List (DataW H), ds.length = Try.f5.params.size → Rows.octetKeepsSpec.fn H ds = { results := [.lit (.bool true)], args := ds } := fun ds hds => match ds, hds with
    | [_, _], _ => rfl
  have h4 : Try.prog.underlying 4 = some .bool := Try.underlying4
  have hv : Rows.octetKeepsSpec.vars = [] := rfl
  exact law_contract (P := Try.prog) (cx := cx) (prim := prim) (k := 5) (f := Try.f5) (s := Rows.octetKeepsSpec) (bound := 1048576) (shs := [.slice (.int .u8), .int .i64]) (n := 8) rfl mixed primOK laid read5 shape5 res5 h4 hv hsp (bulk H) answers5 hval hW hs

set_option maxRecDepth 100000 in
theorem lifted5 (os : Os) (started : os.Started) (H : Type) (enc : TypeId × Value → H) (F : Stop.Interp) :
    ReturnsInHanded {} Try.checked os 5 .any ((Rows.OpenSpec.upto Rows.octetKeepsSpec).pre6 enc Try.prog Try.f5 Rows.octetKeepsUptoRow.domain false) (((Rows.OpenSpec.upto Rows.octetKeepsSpec).at F).post enc Try.prog Try.f5 false true false false) := by
  refine returnsInHanded_of_cond (C := Try.checked) (s := Rows.OpenSpec.upto Rows.octetKeepsSpec) (k := Rows.uptoSmall) rfl own started (by kernel_rfl) Try.func5
    (OpenSpec.witness (enc := enc) (C := Try.checked) (s := Rows.OpenSpec.upto Rows.octetKeepsSpec) (k := Rows.uptoSmall) rfl false ⟨#[], #[.slice none 0 0, .int .i64 0], []⟩ 8 (by kernel_rfl) (by kernel_rfl) (by kernel_rfl)
      (x := ([.nil, .lit (.int .i64 0)], [], [])) (by kernel_rfl) rfl (by kernel_rfl)) ?_
  intro W base args ds gs before hval hW _ hk _
  exact contract5 H enc W base args ds gs before hval hW hk

theorem octetKeeps_over : Rows.octetKeepsUptoRow.holds Try.pinned (Rows.OpenSpec.upto Rows.octetKeepsSpec) :=
  OpenClaim.holds_of_cond 5 Try.f5 rfl rfl rfl rfl rfl rfl rfl ⟨rfl, rfl, rfl, rfl, rfl⟩ rfl rfl rfl rfl rfl (by kernel_rfl) Try.func5 (by kernel_rfl)
    (of_decide_eq_true (by kernel_rfl)) (by unfold Func.isWrapper; first | (rw [if_pos (by decide +kernel)]; kernel_rfl) | (rw [if_neg (by decide +kernel)]; exact ⟨rfl, rfl⟩))
    (fun os started H enc _ F => lifted5 os started H enc F)

theorem octetKeeps_upto : Rows.OctetKeepsUptoSaid := octetKeeps_over
#print axioms octetKeeps_upto
end Go.Proofs.Ytccajagfgdchlaa
