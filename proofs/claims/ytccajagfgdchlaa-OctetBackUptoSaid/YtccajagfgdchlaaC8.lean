/- What is written is read as it was, whatever stands behind it: the law OctetBack answers true. Conditions: the arguments hold together at most 1048576 values and letters. -/
import Derived.Test.YtccajagfgdchlaaA8
import Derived.Test.YtccajagfgdchlaaFin
import Derived.WalkKit
import Derived.ProofKit
import Derived.OpenShut
import Derived.JoinedCond
set_option linter.unusedSimpArgs false
set_option linter.unusedVariables false
namespace Go.Proofs.Ytccajagfgdchlaa
open Vai
open Go.ChangeShapes Go.WideShapes Go.ChangeAt Go.RowKit
theorem shape8 : allM (shapeOf Try.prog 8) Try.f8.params.toList = some [.slice (.agg [.int .i64, .int .i64, .str, .bool]), .slice (.int .u8)] := by kernel_rfl
theorem read8 : (Try.f8.params.toList.all fun t => Try.prog.readableRec t && decide (t < Try.prog.types.size)) = true := by kernel_rfl
theorem res8 : Try.f8.resultTypes = #[4] := rfl
set_option maxRecDepth 100000 in
theorem contract8 (H : Type) (enc : TypeId × Value → H) (W : World) (base : Nat) (args : Array Value) (ds gs : List (DataW H)) (before : List MemPlace)
    (hval : ∀ (j : Nat) t v, Try.f8.params[j]? = some t → args[j]? = some v → Value.okWide Try.prog W .any base t v)
    (hW : DataW.Whole enc Try.prog Try.f8.params.toList Rows.octetBackSpec.vars false W args.toList ds gs before) (hk : Rows.uptoSmall H (ds ++ gs) = true) :
    Calls Try.prog 8 args W fun e W' => ∃ v, e = .returned v ∧ Rows.octetBackSpec.post enc Try.prog Try.f8 false true false false W args v W' := by
  have hs := small_le hk
  have hsp : ∀ ds : List (DataW H), ds.length = Try.f8.params.size → Rows.octetBackSpec.fn H ds = { results := [.lit (.bool true)], args := ds } := fun ds hds => match ds, hds with
    | [_, _], _ => rfl
  have h4 : Try.prog.underlying 4 = some .bool := Try.underlying4
  have hv : Rows.octetBackSpec.vars = [] := rfl
  exact law_contract (P := Try.prog) (cx := cx) (prim := prim) (k := 8) (f := Try.f8) (s := Rows.octetBackSpec) (bound := 1048576) (shs := [.slice (.agg [.int .i64, .int .i64, .str, .bool]), .slice (.int .u8)]) (n := 8) rfl mixed primOK laid read8 shape8 res8 h4 hv hsp (bulk H) answers8 hval hW hs

set_option maxRecDepth 100000 in
theorem lifted8 (os : Os) (started : os.Started) (H : Type) (enc : TypeId × Value → H) (F : Stop.Interp) :
    ReturnsInHanded {} Try.checked os 8 .any ((Rows.OpenSpec.upto Rows.octetBackSpec).pre6 enc Try.prog Try.f8 Rows.octetBackUptoRow.domain false) (((Rows.OpenSpec.upto Rows.octetBackSpec).at F).post enc Try.prog Try.f8 false true false false) := by
  refine returnsInHanded_of_cond (C := Try.checked) (s := Rows.OpenSpec.upto Rows.octetBackSpec) (k := Rows.uptoSmall) rfl own started (by kernel_rfl) Try.func8
    (OpenSpec.witness (enc := enc) (C := Try.checked) (s := Rows.OpenSpec.upto Rows.octetBackSpec) (k := Rows.uptoSmall) rfl false ⟨#[], #[.slice none 0 0, .slice none 0 0], []⟩ 8 (by kernel_rfl) (by kernel_rfl) (by kernel_rfl)
      (x := ([.nil, .nil], [], [])) (by kernel_rfl) rfl (by kernel_rfl)) ?_
  intro W base args ds gs before hval hW _ hk _
  exact contract8 H enc W base args ds gs before hval hW hk

theorem octetBack_over : Rows.octetBackUptoRow.holds Try.pinned (Rows.OpenSpec.upto Rows.octetBackSpec) :=
  OpenClaim.holds_of_cond 8 Try.f8 rfl rfl rfl rfl rfl rfl rfl ⟨rfl, rfl, rfl, rfl, rfl⟩ rfl rfl rfl rfl rfl (by kernel_rfl) Try.func8 (by kernel_rfl)
    (of_decide_eq_true (by kernel_rfl)) (by unfold Func.isWrapper; first | (rw [if_pos (by decide +kernel)]; kernel_rfl) | (rw [if_neg (by decide +kernel)]; exact ⟨rfl, rfl⟩))
    (fun os started H enc _ F => lifted8 os started H enc F)

theorem octetBack_upto : Rows.OctetBackUptoSaid := octetBack_over
#print axioms octetBack_upto
end Go.Proofs.Ytccajagfgdchlaa
