/- Whatever bytes are read in whatever way, each answer, what is left, and whether something couldn't be read, are the document's: the law OctetReads answers true. Conditions: the arguments hold together at most 1048576 values and letters. -/
import Derived.Test.YtccajagfgdchlaaA9
import Derived.Test.YtccajagfgdchlaaFin
import Derived.WalkKit
import Derived.ProofKit
import Derived.OpenShut
import Derived.JoinedCond
set_option linter.unusedSimpArgs false
set_option linter.unusedVariables false
namespace Go.Proofs.Ytccajagfgdchlaa
open Vai
open Go.ChangeShapes Go.WideShapes Go.ChangeAt Go.RowKit
theorem shape9 : allM (shapeOf Try.prog 8) Try.f9.params.toList = some [.slice (.int .u8), .slice (.agg [.int .i64, .int .i64])] := by kernel_rfl
theorem read9 : (Try.f9.params.toList.all fun t => Try.prog.readableRec t && decide (t < Try.prog.types.size)) = true := by kernel_rfl
theorem res9 : Try.f9.resultTypes = #[4] := rfl
set_option maxRecDepth 100000 in
theorem contract9 (H : Type) (enc : TypeId × Value → H) (W : World) (base : Nat) (args : Array Value) (ds gs : List (DataW H)) (before : List MemPlace)
    (hval : ∀ (j : Nat) t v, Try.f9.params[j]? = some t → args[j]? = some v → Value.okWide Try.prog W .any base t v)
    (hW : DataW.Whole enc Try.prog Try.f9.params.toList Rows.octetReadsSpec.vars false W args.toList ds gs before) (hk : Rows.uptoSmall H (ds ++ gs) = true) :
    Calls Try.prog 9 args W fun e W' => ∃ v, e = .returned v ∧ Rows.octetReadsSpec.post enc Try.prog Try.f9 false true false false W args v W' := by
  have hs := small_le hk
  have hsp : ∀ ds : List (DataW H), ds.length = Try.f9.params.size → Rows.octetReadsSpec.fn H ds = { results := [.lit (.bool true)], args := ds } := fun ds hds => match ds, hds with
    | [_, _], _ => rfl
  have h4 : Try.prog.underlying 4 = some .bool := Try.underlying4
  have hv : Rows.octetReadsSpec.vars = [] := rfl
  exact law_contract (P := Try.prog) (cx := cx) (prim := prim) (k := 9) (f := Try.f9) (s := Rows.octetReadsSpec) (bound := 1048576) (shs := [.slice (.int .u8), .slice (.agg [.int .i64, .int .i64])]) (n := 8) rfl mixed primOK laid read9 shape9 res9 h4 hv hsp (bulk H) answers9 hval hW hs

set_option maxRecDepth 100000 in
theorem lifted9 (os : Os) (started : os.Started) (H : Type) (enc : TypeId × Value → H) (F : Stop.Interp) :
    ReturnsInHanded {} Try.checked os 9 .any ((Rows.OpenSpec.upto Rows.octetReadsSpec).pre6 enc Try.prog Try.f9 Rows.octetReadsUptoRow.domain false) (((Rows.OpenSpec.upto Rows.octetReadsSpec).at F).post enc Try.prog Try.f9 false true false false) := by
  refine returnsInHanded_of_cond (C := Try.checked) (s := Rows.OpenSpec.upto Rows.octetReadsSpec) (k := Rows.uptoSmall) rfl own started (by kernel_rfl) Try.func9
    (OpenSpec.witness (enc := enc) (C := Try.checked) (s := Rows.OpenSpec.upto Rows.octetReadsSpec) (k := Rows.uptoSmall) rfl false ⟨#[], #[.slice none 0 0, .slice none 0 0], []⟩ 8 (by kernel_rfl) (by kernel_rfl) (by kernel_rfl)
      (x := ([.nil, .nil], [], [])) (by kernel_rfl) rfl (by kernel_rfl)) ?_
  intro W base args ds gs before hval hW _ hk _
  exact contract9 H enc W base args ds gs before hval hW hk

theorem octetReads_over : Rows.octetReadsUptoRow.holds Try.pinned (Rows.OpenSpec.upto Rows.octetReadsSpec) :=
  OpenClaim.holds_of_cond 9 Try.f9 rfl rfl rfl rfl rfl rfl rfl ⟨rfl, rfl, rfl, rfl, rfl⟩ rfl rfl rfl rfl rfl (by kernel_rfl) Try.func9 (by kernel_rfl)
    (of_decide_eq_true (by kernel_rfl)) (by unfold Func.isWrapper; first | (rw [if_pos (by decide +kernel)]; kernel_rfl) | (rw [if_neg (by decide +kernel)]; exact ⟨rfl, rfl⟩))
    (fun os started H enc _ F => lifted9 os started H enc F)

theorem octetReads_upto : Rows.OctetReadsUptoSaid := octetReads_over
#print axioms octetReads_upto
end Go.Proofs.Ytccajagfgdchlaa
