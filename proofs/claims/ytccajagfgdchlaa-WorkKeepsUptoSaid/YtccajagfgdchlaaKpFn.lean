import Derived.Test.YtccajagfgdchlaaKpCx
import Derived.Test.YtccajagfgdchlaaTryFn
set_option linter.unusedSimpArgs false
set_option linter.unusedVariables false
namespace Go.Proofs.Ytccajagfgdchlaa.Kp
open Vai
theorem ok7 : okFunc (cx.at 7) Try.f7 = true := by kernel_rfl
theorem ok21 : okFunc (cx.at 21) Try.f21 = true := by kernel_rfl
theorem ok22 : okFunc (cx.at 22) Try.f22 = true := by kernel_rfl
theorem ok23 : okFunc (cx.at 23) Try.f23 = true := by kernel_rfl
theorem ok24 : okFunc (cx.at 24) Try.f24 = true := by kernel_rfl
theorem ok30 : okFunc (cx.at 30) Try.f30 = true := by kernel_rfl
theorem ok31 : okFunc (cx.at 31) Try.f31 = true := by kernel_rfl
theorem ok32 : okFunc (cx.at 32) Try.f32 = true := by kernel_rfl
theorem ok34 : okFunc (cx.at 34) Try.f34 = true := by kernel_rfl
theorem ok53 : okFunc (cx.at 53) Try.f53 = true := by kernel_rfl
theorem ok54 : okFunc (cx.at 54) Try.f54 = true := by kernel_rfl
theorem ok55 : okFunc (cx.at 55) Try.f55 = true := by kernel_rfl
theorem ok56 : okFunc (cx.at 56) Try.f56 = true := by kernel_rfl
theorem ok58 : okFunc (cx.at 58) Try.f58 = true := by kernel_rfl
theorem ok50 : okFunc (cx.at 50) Try.f50 = true := by kernel_rfl
theorem ok18 : okFunc (cx.at 18) Try.f18 = true := by kernel_rfl
theorem ok19 : okFunc (cx.at 19) Try.f19 = true := by kernel_rfl
theorem ok20 : okFunc (cx.at 20) Try.f20 = true := by kernel_rfl
theorem ok62 : okFunc (cx.at 62) Try.f62 = true := by kernel_rfl
theorem ok76 : okFunc (cx.at 76) Try.f76 = true := by kernel_rfl
theorem ok77 : okFunc (cx.at 77) Try.f77 = true := by kernel_rfl
theorem ok74 : okFunc (cx.at 74) Try.f74 = true := by kernel_rfl
theorem ok75 : okFunc (cx.at 75) Try.f75 = true := by kernel_rfl
theorem ok51 : okFunc (cx.at 51) Try.f51 = true := by kernel_rfl
theorem ok52 : okFunc (cx.at 52) Try.f52 = true := by kernel_rfl
theorem ok57 : okFunc (cx.at 57) Try.f57 = true := by kernel_rfl
end Go.Proofs.Ytccajagfgdchlaa.Kp
