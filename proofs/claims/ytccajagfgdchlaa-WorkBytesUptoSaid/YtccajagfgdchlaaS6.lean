import Derived.Test.YtccajagfgdchlaaS5
set_option linter.unusedSimpArgs false
set_option linter.unusedVariables false
set_option linter.unusedSectionVars false
namespace Go.Proofs.Ytccajagfgdchlaa
open Vai
set_option maxHeartbeats 0
theorem y16 : yes (callN cx prim 30 16 [] .empty) = true := by kernel_rfl
theorem c16 {c : FuncId} (h : H) (hm : md c 16 = .pure) : callD (cx.at c) (call cx prim) 16 [] h = some (.t (.bool true), h) := by
  obtain ⟨h', h1⟩ := yes_call y16
  exact pureT cb16 hm h1 rfl rfl
theorem law3 {b : T} {bs : List UInt8} (n : Int) (s : ByteArray) (x : Bool) (hb : Slice b (ub bs)) (hlen : bs.length ≤ 1500000) (hs : s.size ≤ 1500000) : ∃ h', call cx prim 3 [.t b, .t (.int .i64 n), .t (.str s), .t (.bool x)] .empty = some (.t (.bool true), h') := by
  rw [call_run rfl Try.func3 ok3 nd3 rfl (Nat.le_of_ble_eq_true rfl) rfl rfl]
  obtain ⟨_, q13⟩ := s13 n hb (by omega)
  obtain ⟨_, q14⟩ := s14 s hb (by omega) (by omega)
  obtain ⟨_, q15⟩ := s15 x hb (by omega)
  have c13 := fun h => pureNew (cc := cx.at 3) (h := h) cb13 rfl q13 rfl
  have c14 := fun h => pureNew (cc := cx.at 3) (h := h) cb14 rfl q14 rfl
  have c15 := fun h => pureNew (cc := cx.at 3) (h := h) cb15 rfl q15 rfl
  have c18 := fun h => pureNew (cc := cx.at 3) (h := h) cb18 rfl (s18 n hb (by omega)) rfl
  have c19 := fun h => pureNew (cc := cx.at 3) (h := h) cb19 rfl (s19 s hb (by omega) (by omega)) rfl
  have c20 := fun h => pureNew (cc := cx.at 3) (h := h) cb20 rfl (s20 x hb (by omega)) rfl
  have d1 := fun (xs : List UInt8) h => c17 (c := 3) (sl_slice (ub xs)) (sl_slice (ub xs)) h rfl
  simp -implicitDefEqProofs [c13, c14, c15, c18, c19, c20, c16 (c := 3) _ rfl, d1]
end Go.Proofs.Ytccajagfgdchlaa
