/- What is handed in stays as it was, and what is answered is new memory: the law WorkKeeps answers true. Conditions: the arguments hold together at most 1048576 values and letters. -/
import Derived.Test.YtccajagfgdchlaaA7
import Derived.Test.YtccajagfgdchlaaFin
import Derived.WalkKit
import Derived.ProofKit
import Derived.OpenShut
import Derived.JoinedCond
set_option linter.unusedSimpArgs false
set_option linter.unusedVariables false
namespace Go.Proofs.Ytccajagfgdchlaa
open Vai
open Go.ChangeShapes Go.WideShapes Go.ChangeAt Go.RowKit
theorem shape7 : allM (shapeOf Try.prog 8) Try.f7.params.toList = some [.agg [.int .i64, .int .i64, .str, .bool, .int .i64, .int .i64, .int .i64, .int .i64, .slice (.agg [.str, .agg [.int .i64, .int .i64, .str]])], .int .i64] := by kernel_rfl
theorem read7 : (Try.f7.params.toList.all fun t => Try.prog.readableRec t && decide (t < Try.prog.types.size)) = true := by kernel_rfl
theorem res7 : Try.f7.resultTypes = #[4] := rfl
set_option maxRecDepth 100000 in
theorem contract7 (H : Type) (enc : TypeId × Value → H) (W : World) (base : Nat) (args : Array Value) (ds gs : List (DataW H)) (before : List MemPlace)
    (hval : ∀ (j : Nat) t v, Try.f7.params[j]? = some t → args[j]? = some v → Value.okWide Try.prog W .any base t v)
    (hW : DataW.Whole enc Try.prog Try.f7.params.toList Rows.workKeepsSpec.vars false W args.toList ds gs before) (hk : Rows.uptoSmall H (ds ++ gs) = true) :
    Calls Try.prog 7 args W fun e W' => ∃ v, e = .returned v ∧ Rows.workKeepsSpec.post enc Try.prog Try.f7 false true false false W args v W' := by
  have hs := small_le hk
  have hsp : ∀ ds : List (DataW H), ds.length = Try.f7.params.size → Rows.workKeepsSpec.fn H ds = { results := [.lit (.bool true)], args := ds } := fun ds hds => match ds, hds with
    | [_, _], _ => rfl
  have h4 : Try.prog.underlying 4 = some .bool := Try.underlying4
  have hv : Rows.workKeepsSpec.vars = [] := rfl
  exact law_contract (P := Try.prog) (cx := Kp.cx) (prim := Kp.prim) (k := 7) (f := Try.f7) (s := Rows.workKeepsSpec) (bound := 1048576) (shs := [.agg [.int .i64, .int .i64, .str, .bool, .int .i64, .int .i64, .int .i64, .int .i64, .slice (.agg [.str, .agg [.int .i64, .int .i64, .str]])], .int .i64]) (n := 8) rfl mixed Kp.primOK laid read7 shape7 res7 h4 hv hsp (bulk H) Kp.answers7 hval hW hs

set_option maxRecDepth 100000 in
theorem lifted7 (os : Os) (started : os.Started) (H : Type) (enc : TypeId × Value → H) (F : Stop.Interp) :
    ReturnsInHanded {} Try.checked os 7 .any ((Rows.OpenSpec.upto Rows.workKeepsSpec).pre6 enc Try.prog Try.f7 Rows.workKeepsUptoRow.domain false) (((Rows.OpenSpec.upto Rows.workKeepsSpec).at F).post enc Try.prog Try.f7 false true false false) := by
  refine returnsInHanded_of_cond (C := Try.checked) (s := Rows.OpenSpec.upto Rows.workKeepsSpec) (k := Rows.uptoSmall) rfl own started (by kernel_rfl) Try.func7
    (OpenSpec.witness (enc := enc) (C := Try.checked) (s := Rows.OpenSpec.upto Rows.workKeepsSpec) (k := Rows.uptoSmall) rfl false ⟨#[], #[.agg #[.int .i64 0, .int .i64 0, .string ⟨#[]⟩, .bool false, .int .i64 0, .int .i64 0, .int .i64 0, .int .i64 0, .slice none 0 0], .int .i64 0], []⟩ 8 (by kernel_rfl) (by kernel_rfl) (by kernel_rfl)
      (x := ([.agg [.lit (.int .i64 0), .lit (.int .i64 0), .lit (.string []), .lit (.bool false), .lit (.int .i64 0), .lit (.int .i64 0), .lit (.int .i64 0), .lit (.int .i64 0), .nil], .lit (.int .i64 0)], [], [])) (by kernel_rfl) rfl (by kernel_rfl)) ?_
  intro W base args ds gs before hval hW _ hk _
  exact contract7 H enc W base args ds gs before hval hW hk

theorem workKeeps_over : Rows.workKeepsUptoRow.holds Try.pinned (Rows.OpenSpec.upto Rows.workKeepsSpec) :=
  OpenClaim.holds_of_cond 7 Try.f7 rfl rfl rfl rfl rfl rfl rfl ⟨rfl, rfl, rfl, rfl, rfl⟩ rfl rfl rfl rfl rfl (by kernel_rfl) Try.func7 (by kernel_rfl)
    (of_decide_eq_true (by kernel_rfl)) (by unfold Func.isWrapper; first | (rw [if_pos (by decide +kernel)]; kernel_rfl) | (rw [if_neg (by decide +kernel)]; exact ⟨rfl, rfl⟩))
    (fun os started H enc _ F => lifted7 os started H enc F)

theorem workKeeps_upto : Rows.WorkKeepsUptoSaid := workKeeps_over
#print axioms workKeeps_upto
end Go.Proofs.Ytccajagfgdchlaa
