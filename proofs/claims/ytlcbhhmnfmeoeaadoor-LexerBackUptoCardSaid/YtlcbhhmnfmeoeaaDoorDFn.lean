import Derived.Test.YtlcbhhmnfmeoeaaDoorDCx
set_option linter.unusedSimpArgs false
set_option linter.unusedVariables false
set_option linter.unusedSectionVars false
/-
  BY PROGRAM (wip/vai/Gen.lean): the seat's functions.
-/
namespace Go.Proofs.YtlcbhhmnfmeoeaaDoor
open Vai
theorem cb2 : callable Tryd.prog 2 = true := by kernel_rfl
theorem ok2 : okFunc (cx.at 2) Tryd.f2 = true := by kernel_rfl
theorem nd2 : (loopIds (bodyOf Tryd.f2)).Nodup := by decide +kernel
theorem cb3 : callable Tryd.prog 3 = true := by kernel_rfl
theorem ok3 : okFunc (cx.at 3) Tryd.f3 = true := by kernel_rfl
theorem nd3 : (loopIds (bodyOf Tryd.f3)).Nodup := by decide +kernel
theorem cb4 : callable Tryd.prog 4 = true := by kernel_rfl
theorem ok4 : okFunc (cx.at 4) Tryd.f4 = true := by kernel_rfl
theorem nd4 : (loopIds (bodyOf Tryd.f4)).Nodup := by decide +kernel
theorem cb5 : callable Tryd.prog 5 = true := by kernel_rfl
theorem ok5 : okFunc (cx.at 5) Tryd.f5 = true := by kernel_rfl
theorem nd5 : (loopIds (bodyOf Tryd.f5)).Nodup := by decide +kernel
theorem cb6 : callable Tryd.prog 6 = true := by kernel_rfl
theorem ok6 : okFunc (cx.at 6) Tryd.f6 = true := by kernel_rfl
theorem nd6 : (loopIds (bodyOf Tryd.f6)).Nodup := by decide +kernel
theorem cb7 : callable Tryd.prog 7 = true := by kernel_rfl
theorem ok7 : okFunc (cx.at 7) Tryd.f7 = true := by kernel_rfl
theorem nd7 : (loopIds (bodyOf Tryd.f7)).Nodup := by decide +kernel
theorem cb8 : callable Tryd.prog 8 = true := by kernel_rfl
theorem ok8 : okFunc (cx.at 8) Tryd.f8 = true := by kernel_rfl
theorem nd8 : (loopIds (bodyOf Tryd.f8)).Nodup := by decide +kernel
theorem cb9 : callable Tryd.prog 9 = true := by kernel_rfl
theorem ok9 : okFunc (cx.at 9) Tryd.f9 = true := by kernel_rfl
theorem nd9 : (loopIds (bodyOf Tryd.f9)).Nodup := by decide +kernel
theorem cb10 : callable Tryd.prog 10 = true := by kernel_rfl
theorem ok10 : okFunc (cx.at 10) Tryd.f10 = true := by kernel_rfl
theorem nd10 : (loopIds (bodyOf Tryd.f10)).Nodup := by decide +kernel
theorem cb11 : callable Tryd.prog 11 = true := by kernel_rfl
theorem ok11 : okFunc (cx.at 11) Tryd.f11 = true := by kernel_rfl
theorem nd11 : (loopIds (bodyOf Tryd.f11)).Nodup := by decide +kernel
theorem cb12 : callable Tryd.prog 12 = true := by kernel_rfl
theorem ok12 : okFunc (cx.at 12) Tryd.f12 = true := by kernel_rfl
theorem nd12 : (loopIds (bodyOf Tryd.f12)).Nodup := by decide +kernel
theorem cb13 : callable Tryd.prog 13 = true := by kernel_rfl
theorem ok13 : okFunc (cx.at 13) Tryd.f13 = true := by kernel_rfl
theorem nd13 : (loopIds (bodyOf Tryd.f13)).Nodup := by decide +kernel
theorem cb14 : callable Tryd.prog 14 = true := by kernel_rfl
theorem ok14 : okFunc (cx.at 14) Tryd.f14 = true := by kernel_rfl
theorem nd14 : (loopIds (bodyOf Tryd.f14)).Nodup := by decide +kernel
theorem cb15 : callable Tryd.prog 15 = true := by kernel_rfl
theorem ok15 : okFunc (cx.at 15) Tryd.f15 = true := by kernel_rfl
theorem nd15 : (loopIds (bodyOf Tryd.f15)).Nodup := by decide +kernel
theorem cb16 : callable Tryd.prog 16 = true := by kernel_rfl
theorem ok16 : okFunc (cx.at 16) Tryd.f16 = true := by kernel_rfl
theorem nd16 : (loopIds (bodyOf Tryd.f16)).Nodup := by decide +kernel
theorem cb17 : callable Tryd.prog 17 = true := by kernel_rfl
theorem ok17 : okFunc (cx.at 17) Tryd.f17 = true := by kernel_rfl
theorem nd17 : (loopIds (bodyOf Tryd.f17)).Nodup := by decide +kernel
theorem cb18 : callable Tryd.prog 18 = true := by kernel_rfl
theorem ok18 : okFunc (cx.at 18) Tryd.f18 = true := by kernel_rfl
theorem nd18 : (loopIds (bodyOf Tryd.f18)).Nodup := by decide +kernel
theorem cb19 : callable Tryd.prog 19 = true := by kernel_rfl
theorem ok19 : okFunc (cx.at 19) Tryd.f19 = true := by kernel_rfl
theorem nd19 : (loopIds (bodyOf Tryd.f19)).Nodup := by decide +kernel
theorem cb20 : callable Tryd.prog 20 = true := by kernel_rfl
theorem ok20 : okFunc (cx.at 20) Tryd.f20 = true := by kernel_rfl
theorem nd20 : (loopIds (bodyOf Tryd.f20)).Nodup := by decide +kernel
theorem cb21 : callable Tryd.prog 21 = true := by kernel_rfl
theorem ok21 : okFunc (cx.at 21) Tryd.f21 = true := by kernel_rfl
theorem nd21 : (loopIds (bodyOf Tryd.f21)).Nodup := by decide +kernel
theorem cb22 : callable Tryd.prog 22 = true := by kernel_rfl
theorem ok22 : okFunc (cx.at 22) Tryd.f22 = true := by kernel_rfl
theorem nd22 : (loopIds (bodyOf Tryd.f22)).Nodup := by decide +kernel
theorem cb23 : callable Tryd.prog 23 = true := by kernel_rfl
theorem ok23 : okFunc (cx.at 23) Tryd.f23 = true := by kernel_rfl
theorem nd23 : (loopIds (bodyOf Tryd.f23)).Nodup := by decide +kernel
theorem cb24 : callable Tryd.prog 24 = true := by kernel_rfl
theorem ok24 : okFunc (cx.at 24) Tryd.f24 = true := by kernel_rfl
theorem nd24 : (loopIds (bodyOf Tryd.f24)).Nodup := by decide +kernel
theorem cb25 : callable Tryd.prog 25 = true := by kernel_rfl
theorem ok25 : okFunc (cx.at 25) Tryd.f25 = true := by kernel_rfl
theorem nd25 : (loopIds (bodyOf Tryd.f25)).Nodup := by decide +kernel
theorem cb26 : callable Tryd.prog 26 = true := by kernel_rfl
theorem ok26 : okFunc (cx.at 26) Tryd.f26 = true := by kernel_rfl
theorem nd26 : (loopIds (bodyOf Tryd.f26)).Nodup := by decide +kernel
theorem cb27 : callable Tryd.prog 27 = true := by kernel_rfl
theorem ok27 : okFunc (cx.at 27) Tryd.f27 = true := by kernel_rfl
theorem nd27 : (loopIds (bodyOf Tryd.f27)).Nodup := by decide +kernel
theorem cb28 : callable Tryd.prog 28 = true := by kernel_rfl
theorem ok28 : okFunc (cx.at 28) Tryd.f28 = true := by kernel_rfl
theorem nd28 : (loopIds (bodyOf Tryd.f28)).Nodup := by decide +kernel
theorem cb29 : callable Tryd.prog 29 = true := by kernel_rfl
theorem ok29 : okFunc (cx.at 29) Tryd.f29 = true := by kernel_rfl
theorem nd29 : (loopIds (bodyOf Tryd.f29)).Nodup := by decide +kernel
theorem cb30 : callable Tryd.prog 30 = true := by kernel_rfl
theorem ok30 : okFunc (cx.at 30) Tryd.f30 = true := by kernel_rfl
theorem nd30 : (loopIds (bodyOf Tryd.f30)).Nodup := by decide +kernel
theorem cb31 : callable Tryd.prog 31 = true := by kernel_rfl
theorem ok31 : okFunc (cx.at 31) Tryd.f31 = true := by kernel_rfl
theorem nd31 : (loopIds (bodyOf Tryd.f31)).Nodup := by decide +kernel
theorem cb32 : callable Tryd.prog 32 = true := by kernel_rfl
theorem ok32 : okFunc (cx.at 32) Tryd.f32 = true := by kernel_rfl
theorem nd32 : (loopIds (bodyOf Tryd.f32)).Nodup := by decide +kernel
theorem cb33 : callable Tryd.prog 33 = true := by kernel_rfl
theorem ok33 : okFunc (cx.at 33) Tryd.f33 = true := by kernel_rfl
theorem nd33 : (loopIds (bodyOf Tryd.f33)).Nodup := by decide +kernel
theorem cb34 : callable Tryd.prog 34 = true := by kernel_rfl
theorem ok34 : okFunc (cx.at 34) Tryd.f34 = true := by kernel_rfl
theorem nd34 : (loopIds (bodyOf Tryd.f34)).Nodup := by decide +kernel
theorem cb35 : callable Tryd.prog 35 = true := by kernel_rfl
theorem ok35 : okFunc (cx.at 35) Tryd.f35 = true := by kernel_rfl
theorem nd35 : (loopIds (bodyOf Tryd.f35)).Nodup := by decide +kernel
theorem cb36 : callable Tryd.prog 36 = true := by kernel_rfl
theorem ok36 : okFunc (cx.at 36) Tryd.f36 = true := by kernel_rfl
theorem nd36 : (loopIds (bodyOf Tryd.f36)).Nodup := by decide +kernel
theorem cb37 : callable Tryd.prog 37 = true := by kernel_rfl
theorem ok37 : okFunc (cx.at 37) Tryd.f37 = true := by kernel_rfl
theorem nd37 : (loopIds (bodyOf Tryd.f37)).Nodup := by decide +kernel
theorem cb38 : callable Tryd.prog 38 = true := by kernel_rfl
theorem ok38 : okFunc (cx.at 38) Tryd.f38 = true := by kernel_rfl
theorem nd38 : (loopIds (bodyOf Tryd.f38)).Nodup := by decide +kernel
theorem cb39 : callable Tryd.prog 39 = true := by kernel_rfl
theorem ok39 : okFunc (cx.at 39) Tryd.f39 = true := by kernel_rfl
theorem nd39 : (loopIds (bodyOf Tryd.f39)).Nodup := by decide +kernel
theorem cb40 : callable Tryd.prog 40 = true := by kernel_rfl
theorem ok40 : okFunc (cx.at 40) Tryd.f40 = true := by kernel_rfl
theorem nd40 : (loopIds (bodyOf Tryd.f40)).Nodup := by decide +kernel
theorem cb41 : callable Tryd.prog 41 = true := by kernel_rfl
theorem ok41 : okFunc (cx.at 41) Tryd.f41 = true := by kernel_rfl
theorem nd41 : (loopIds (bodyOf Tryd.f41)).Nodup := by decide +kernel
theorem cb42 : callable Tryd.prog 42 = true := by kernel_rfl
theorem ok42 : okFunc (cx.at 42) Tryd.f42 = true := by kernel_rfl
theorem nd42 : (loopIds (bodyOf Tryd.f42)).Nodup := by decide +kernel
theorem cb43 : callable Tryd.prog 43 = true := by kernel_rfl
theorem ok43 : okFunc (cx.at 43) Tryd.f43 = true := by kernel_rfl
theorem nd43 : (loopIds (bodyOf Tryd.f43)).Nodup := by decide +kernel
theorem cb44 : callable Tryd.prog 44 = true := by kernel_rfl
theorem ok44 : okFunc (cx.at 44) Tryd.f44 = true := by kernel_rfl
theorem nd44 : (loopIds (bodyOf Tryd.f44)).Nodup := by decide +kernel
theorem cb45 : callable Tryd.prog 45 = true := by kernel_rfl
theorem ok45 : okFunc (cx.at 45) Tryd.f45 = true := by kernel_rfl
theorem nd45 : (loopIds (bodyOf Tryd.f45)).Nodup := by decide +kernel
theorem cb46 : callable Tryd.prog 46 = true := by kernel_rfl
theorem ok46 : okFunc (cx.at 46) Tryd.f46 = true := by kernel_rfl
theorem nd46 : (loopIds (bodyOf Tryd.f46)).Nodup := by decide +kernel
theorem cb47 : callable Tryd.prog 47 = true := by kernel_rfl
theorem ok47 : okFunc (cx.at 47) Tryd.f47 = true := by kernel_rfl
theorem nd47 : (loopIds (bodyOf Tryd.f47)).Nodup := by decide +kernel
theorem cb48 : callable Tryd.prog 48 = true := by kernel_rfl
theorem ok48 : okFunc (cx.at 48) Tryd.f48 = true := by kernel_rfl
theorem nd48 : (loopIds (bodyOf Tryd.f48)).Nodup := by decide +kernel
theorem cb49 : callable Tryd.prog 49 = true := by kernel_rfl
theorem ok49 : okFunc (cx.at 49) Tryd.f49 = true := by kernel_rfl
theorem nd49 : (loopIds (bodyOf Tryd.f49)).Nodup := by decide +kernel
theorem cb50 : callable Tryd.prog 50 = true := by kernel_rfl
theorem ok50 : okFunc (cx.at 50) Tryd.f50 = true := by kernel_rfl
theorem nd50 : (loopIds (bodyOf Tryd.f50)).Nodup := by decide +kernel
theorem cb51 : callable Tryd.prog 51 = true := by kernel_rfl
theorem ok51 : okFunc (cx.at 51) Tryd.f51 = true := by kernel_rfl
theorem nd51 : (loopIds (bodyOf Tryd.f51)).Nodup := by decide +kernel
theorem cb52 : callable Tryd.prog 52 = true := by kernel_rfl
theorem ok52 : okFunc (cx.at 52) Tryd.f52 = true := by kernel_rfl
theorem nd52 : (loopIds (bodyOf Tryd.f52)).Nodup := by decide +kernel
theorem cb53 : callable Tryd.prog 53 = true := by kernel_rfl
theorem ok53 : okFunc (cx.at 53) Tryd.f53 = true := by kernel_rfl
theorem nd53 : (loopIds (bodyOf Tryd.f53)).Nodup := by decide +kernel
theorem cb54 : callable Tryd.prog 54 = true := by kernel_rfl
theorem ok54 : okFunc (cx.at 54) Tryd.f54 = true := by kernel_rfl
theorem nd54 : (loopIds (bodyOf Tryd.f54)).Nodup := by decide +kernel
theorem cb55 : callable Tryd.prog 55 = true := by kernel_rfl
theorem ok55 : okFunc (cx.at 55) Tryd.f55 = true := by kernel_rfl
theorem nd55 : (loopIds (bodyOf Tryd.f55)).Nodup := by decide +kernel
theorem cb56 : callable Tryd.prog 56 = true := by kernel_rfl
theorem ok56 : okFunc (cx.at 56) Tryd.f56 = true := by kernel_rfl
theorem nd56 : (loopIds (bodyOf Tryd.f56)).Nodup := by decide +kernel
theorem cb57 : callable Tryd.prog 57 = true := by kernel_rfl
theorem ok57 : okFunc (cx.at 57) Tryd.f57 = true := by kernel_rfl
theorem nd57 : (loopIds (bodyOf Tryd.f57)).Nodup := by decide +kernel
theorem cb58 : callable Tryd.prog 58 = true := by kernel_rfl
theorem ok58 : okFunc (cx.at 58) Tryd.f58 = true := by kernel_rfl
theorem nd58 : (loopIds (bodyOf Tryd.f58)).Nodup := by decide +kernel
theorem cb59 : callable Tryd.prog 59 = true := by kernel_rfl
theorem ok59 : okFunc (cx.at 59) Tryd.f59 = true := by kernel_rfl
theorem nd59 : (loopIds (bodyOf Tryd.f59)).Nodup := by decide +kernel
theorem cb60 : callable Tryd.prog 60 = true := by kernel_rfl
theorem ok60 : okFunc (cx.at 60) Tryd.f60 = true := by kernel_rfl
theorem nd60 : (loopIds (bodyOf Tryd.f60)).Nodup := by decide +kernel
theorem cb61 : callable Tryd.prog 61 = true := by kernel_rfl
theorem ok61 : okFunc (cx.at 61) Tryd.f61 = true := by kernel_rfl
theorem nd61 : (loopIds (bodyOf Tryd.f61)).Nodup := by decide +kernel
theorem cb62 : callable Tryd.prog 62 = true := by kernel_rfl
theorem ok62 : okFunc (cx.at 62) Tryd.f62 = true := by kernel_rfl
theorem nd62 : (loopIds (bodyOf Tryd.f62)).Nodup := by decide +kernel
theorem cb63 : callable Tryd.prog 63 = true := by kernel_rfl
theorem ok63 : okFunc (cx.at 63) Tryd.f63 = true := by kernel_rfl
theorem nd63 : (loopIds (bodyOf Tryd.f63)).Nodup := by decide +kernel
theorem cb64 : callable Tryd.prog 64 = true := by kernel_rfl
theorem cb65 : callable Tryd.prog 65 = true := by kernel_rfl
theorem ok65 : okFunc (cx.at 65) Tryd.f65 = true := by kernel_rfl
theorem nd65 : (loopIds (bodyOf Tryd.f65)).Nodup := by decide +kernel
theorem cb66 : callable Tryd.prog 66 = true := by kernel_rfl
theorem ok66 : okFunc (cx.at 66) Tryd.f66 = true := by kernel_rfl
theorem nd66 : (loopIds (bodyOf Tryd.f66)).Nodup := by decide +kernel
theorem cb67 : callable Tryd.prog 67 = true := by kernel_rfl
theorem ok67 : okFunc (cx.at 67) Tryd.f67 = true := by kernel_rfl
theorem nd67 : (loopIds (bodyOf Tryd.f67)).Nodup := by decide +kernel
theorem cb68 : callable Tryd.prog 68 = true := by kernel_rfl
theorem ok68 : okFunc (cx.at 68) Tryd.f68 = true := by kernel_rfl
theorem nd68 : (loopIds (bodyOf Tryd.f68)).Nodup := by decide +kernel
theorem cb69 : callable Tryd.prog 69 = true := by kernel_rfl
theorem ok69 : okFunc (cx.at 69) Tryd.f69 = true := by kernel_rfl
theorem nd69 : (loopIds (bodyOf Tryd.f69)).Nodup := by decide +kernel
theorem cb70 : callable Tryd.prog 70 = true := by kernel_rfl
theorem ok70 : okFunc (cx.at 70) Tryd.f70 = true := by kernel_rfl
theorem nd70 : (loopIds (bodyOf Tryd.f70)).Nodup := by decide +kernel
theorem cb71 : callable Tryd.prog 71 = true := by kernel_rfl
theorem ok71 : okFunc (cx.at 71) Tryd.f71 = true := by kernel_rfl
theorem nd71 : (loopIds (bodyOf Tryd.f71)).Nodup := by decide +kernel
theorem cb72 : callable Tryd.prog 72 = true := by kernel_rfl
theorem ok72 : okFunc (cx.at 72) Tryd.f72 = true := by kernel_rfl
theorem nd72 : (loopIds (bodyOf Tryd.f72)).Nodup := by decide +kernel
theorem cb99 : callable Tryd.prog 99 = true := by kernel_rfl
theorem ok99 : okFunc (cx.at 99) Tryd.f99 = true := by kernel_rfl
theorem nd99 : (loopIds (bodyOf Tryd.f99)).Nodup := by decide +kernel
end Go.Proofs.YtlcbhhmnfmeoeaaDoor
