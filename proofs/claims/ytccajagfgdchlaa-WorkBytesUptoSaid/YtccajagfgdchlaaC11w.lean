/- A job's bytes are the document's and are read as the job that was written; whatever bytes there are, they are read as the document reads them, and a job that is read has just these bytes: the law WorkBytes answers true. Conditions: the arguments hold together at most 1048576 values and letters. -/
import Derived.Test.YtccajagfgdchlaaA11
import Derived.Test.YtccajagfgdchlaaFin
import Derived.WalkKit
import Derived.ProofKit
import Derived.OpenShut
import Derived.JoinedCond
set_option linter.unusedSimpArgs false
set_option linter.unusedVariables false
set_option linter.unusedSectionVars false
namespace Go.Proofs.Ytccajagfgdchlaa
open Vai
open Go.ChangeShapes Go.WideShapes Go.ChangeAt Go.RowKit
theorem shape11 : allM (shapeOf Try.prog 8) Try.f11.params.toList = some [.agg [.int .i64, .int .i64, .str, .bool, .int .i64, .int .i64, .int .i64, .int .i64, .slice (.agg [.str, .agg [.int .i64, .int .i64, .str]])], .slice (.int .u8)] := by kernel_rfl
theorem read11 : (Try.f11.params.toList.all fun t => Try.prog.readableRec t && decide (t < Try.prog.types.size)) = true := by kernel_rfl
theorem res11 : Try.f11.resultTypes = #[4] := rfl
set_option maxRecDepth 100000 in
theorem contract11 (H : Type) (enc : TypeId × Value → H) (W : World) (base : Nat) (args : Array Value) (ds gs : List (DataW H)) (before : List MemPlace)
    (hval : ∀ (j : Nat) t v, Try.f11.params[j]? = some t → args[j]? = some v → Value.okWide Try.prog W .any base t v)
    (hW : DataW.Whole enc Try.prog Try.f11.params.toList Rows.workBytesSpec.vars false W args.toList ds gs before) (hk : Rows.uptoSmall H (ds ++ gs) = true) :
    Calls Try.prog 11 args W fun e W' => ∃ v, e = .returned v ∧ Rows.workBytesSpec.post enc Try.prog Try.f11 false true false false W args v W' := by
  have hs := small_le hk
  have hsp : ∀ ds : List (DataW H), ds.length = Try.f11.params.size → Rows.workBytesSpec.fn H ds = { results := [.lit (.bool true)], args := ds } := fun ds hds => match ds, hds with
    | [_, _], _ => rfl
  have h4 : Try.prog.underlying 4 = some .bool := Try.underlying4
  have hv : Rows.workBytesSpec.vars = [] := rfl
  exact law_contract (P := Try.prog) (cx := cx) (prim := prim) (k := 11) (f := Try.f11) (s := Rows.workBytesSpec) (bound := 1048576) (shs := [.agg [.int .i64, .int .i64, .str, .bool, .int .i64, .int .i64, .int .i64, .int .i64, .slice (.agg [.str, .agg [.int .i64, .int .i64, .str]])], .slice (.int .u8)]) (n := 8) rfl mixed primOK laid read11 shape11 res11 h4 hv hsp (bulk H) answers11 hval hW hs ⟨trivial, fun _ h => h.elim⟩

set_option maxRecDepth 100000 in
theorem lifted11 (os : Os) (started : os.Started) (H : Type) (enc : TypeId × Value → H) (F : Stop.Interp) :
    ReturnsInHanded {} Try.checked os 11 .any ((Rows.OpenSpec.upto Rows.workBytesSpec).pre6 enc Try.prog Try.f11 Rows.workBytesUptoRow.domain false) (((Rows.OpenSpec.upto Rows.workBytesSpec).at F).post enc Try.prog Try.f11 false true false false) := by
  refine returnsInHanded_of_cond (C := Try.checked) (s := Rows.OpenSpec.upto Rows.workBytesSpec) (k := Rows.uptoSmall) rfl own started (by kernel_rfl) Try.func11
    (OpenSpec.witness (enc := enc) (C := Try.checked) (s := Rows.OpenSpec.upto Rows.workBytesSpec) (k := Rows.uptoSmall) rfl false ⟨#[], #[.agg #[.int .i64 0, .int .i64 0, .string ⟨#[]⟩, .bool false, .int .i64 0, .int .i64 0, .int .i64 0, .int .i64 0, .slice none 0 0], .slice none 0 0], []⟩ 8 (by kernel_rfl) (by kernel_rfl) (by kernel_rfl)
      (x := ([.agg [.lit (.int .i64 0), .lit (.int .i64 0), .lit (.string []), .lit (.bool false), .lit (.int .i64 0), .lit (.int .i64 0), .lit (.int .i64 0), .lit (.int .i64 0), .nil], .nil], [], [])) (by kernel_rfl) rfl (by kernel_rfl)) ?_
  intro W base args ds gs before hval hW _ hk _
  exact contract11 H enc W base args ds gs before hval hW hk

theorem workBytes_over : Rows.workBytesUptoRow.holds Try.pinned (Rows.OpenSpec.upto Rows.workBytesSpec) :=
  OpenClaim.holds_of_cond 11 Try.f11 rfl rfl rfl rfl rfl rfl rfl ⟨rfl, rfl, rfl, rfl, rfl⟩ rfl rfl rfl rfl rfl (by kernel_rfl) Try.func11 (by kernel_rfl)
    (of_decide_eq_true (by kernel_rfl)) (by unfold Func.isWrapper; first | (rw [if_pos (by decide +kernel)]; kernel_rfl) | (rw [if_neg (by decide +kernel)]; exact ⟨rfl, rfl⟩))
    (fun os started H enc _ F => lifted11 os started H enc F)

theorem workBytes_upto : Rows.WorkBytesUptoSaid := workBytes_over
#print axioms workBytes_upto
end Go.Proofs.Ytccajagfgdchlaa
