import Derived.Test.YtccajagfgdchlaaTryCx
set_option linter.unusedSimpArgs false
set_option linter.unusedVariables false
set_option linter.unusedSectionVars false
/-
  BY PROGRAM (wip/vai/Gen.lean): the seat's functions.
-/
namespace Go.Proofs.Ytccajagfgdchlaa
open Vai
theorem cb2 : callable Try.prog 2 = true := by kernel_rfl
theorem ok2 : okFunc (cx.at 2) Try.f2 = true := by kernel_rfl
theorem nd2 : (loopIds (bodyOf Try.f2)).Nodup := by decide +kernel
theorem cb3 : callable Try.prog 3 = true := by kernel_rfl
theorem ok3 : okFunc (cx.at 3) Try.f3 = true := by kernel_rfl
theorem nd3 : (loopIds (bodyOf Try.f3)).Nodup := by decide +kernel
theorem cb4 : callable Try.prog 4 = true := by kernel_rfl
theorem ok4 : okFunc (cx.at 4) Try.f4 = true := by kernel_rfl
theorem nd4 : (loopIds (bodyOf Try.f4)).Nodup := by decide +kernel
theorem cb5 : callable Try.prog 5 = true := by kernel_rfl
theorem ok5 : okFunc (cx.at 5) Try.f5 = true := by kernel_rfl
theorem nd5 : (loopIds (bodyOf Try.f5)).Nodup := by decide +kernel
theorem cb6 : callable Try.prog 6 = true := by kernel_rfl
theorem ok6 : okFunc (cx.at 6) Try.f6 = true := by kernel_rfl
theorem nd6 : (loopIds (bodyOf Try.f6)).Nodup := by decide +kernel
theorem cb7 : callable Try.prog 7 = true := by kernel_rfl
theorem ok7 : okFunc (cx.at 7) Try.f7 = true := by kernel_rfl
theorem nd7 : (loopIds (bodyOf Try.f7)).Nodup := by decide +kernel
theorem cb8 : callable Try.prog 8 = true := by kernel_rfl
theorem ok8 : okFunc (cx.at 8) Try.f8 = true := by kernel_rfl
theorem nd8 : (loopIds (bodyOf Try.f8)).Nodup := by decide +kernel
theorem cb9 : callable Try.prog 9 = true := by kernel_rfl
theorem ok9 : okFunc (cx.at 9) Try.f9 = true := by kernel_rfl
theorem nd9 : (loopIds (bodyOf Try.f9)).Nodup := by decide +kernel
theorem cb10 : callable Try.prog 10 = true := by kernel_rfl
theorem ok10 : okFunc (cx.at 10) Try.f10 = true := by kernel_rfl
theorem nd10 : (loopIds (bodyOf Try.f10)).Nodup := by decide +kernel
theorem cb11 : callable Try.prog 11 = true := by kernel_rfl
theorem ok11 : okFunc (cx.at 11) Try.f11 = true := by kernel_rfl
theorem nd11 : (loopIds (bodyOf Try.f11)).Nodup := by decide +kernel
theorem cb12 : callable Try.prog 12 = true := by kernel_rfl
theorem ok12 : okFunc (cx.at 12) Try.f12 = true := by kernel_rfl
theorem nd12 : (loopIds (bodyOf Try.f12)).Nodup := by decide +kernel
theorem cb13 : callable Try.prog 13 = true := by kernel_rfl
theorem ok13 : okFunc (cx.at 13) Try.f13 = true := by kernel_rfl
theorem nd13 : (loopIds (bodyOf Try.f13)).Nodup := by decide +kernel
theorem cb14 : callable Try.prog 14 = true := by kernel_rfl
theorem ok14 : okFunc (cx.at 14) Try.f14 = true := by kernel_rfl
theorem nd14 : (loopIds (bodyOf Try.f14)).Nodup := by decide +kernel
theorem cb15 : callable Try.prog 15 = true := by kernel_rfl
theorem ok15 : okFunc (cx.at 15) Try.f15 = true := by kernel_rfl
theorem nd15 : (loopIds (bodyOf Try.f15)).Nodup := by decide +kernel
theorem cb16 : callable Try.prog 16 = true := by kernel_rfl
theorem ok16 : okFunc (cx.at 16) Try.f16 = true := by kernel_rfl
theorem nd16 : (loopIds (bodyOf Try.f16)).Nodup := by decide +kernel
theorem cb17 : callable Try.prog 17 = true := by kernel_rfl
theorem ok17 : okFunc (cx.at 17) Try.f17 = true := by kernel_rfl
theorem nd17 : (loopIds (bodyOf Try.f17)).Nodup := by decide +kernel
theorem cb18 : callable Try.prog 18 = true := by kernel_rfl
theorem ok18 : okFunc (cx.at 18) Try.f18 = true := by kernel_rfl
theorem nd18 : (loopIds (bodyOf Try.f18)).Nodup := by decide +kernel
theorem cb19 : callable Try.prog 19 = true := by kernel_rfl
theorem ok19 : okFunc (cx.at 19) Try.f19 = true := by kernel_rfl
theorem nd19 : (loopIds (bodyOf Try.f19)).Nodup := by decide +kernel
theorem cb20 : callable Try.prog 20 = true := by kernel_rfl
theorem ok20 : okFunc (cx.at 20) Try.f20 = true := by kernel_rfl
theorem nd20 : (loopIds (bodyOf Try.f20)).Nodup := by decide +kernel
theorem cb21 : callable Try.prog 21 = true := by kernel_rfl
theorem ok21 : okFunc (cx.at 21) Try.f21 = true := by kernel_rfl
theorem nd21 : (loopIds (bodyOf Try.f21)).Nodup := by decide +kernel
theorem cb22 : callable Try.prog 22 = true := by kernel_rfl
theorem ok22 : okFunc (cx.at 22) Try.f22 = true := by kernel_rfl
theorem nd22 : (loopIds (bodyOf Try.f22)).Nodup := by decide +kernel
theorem cb23 : callable Try.prog 23 = true := by kernel_rfl
theorem ok23 : okFunc (cx.at 23) Try.f23 = true := by kernel_rfl
theorem nd23 : (loopIds (bodyOf Try.f23)).Nodup := by decide +kernel
theorem cb24 : callable Try.prog 24 = true := by kernel_rfl
theorem ok24 : okFunc (cx.at 24) Try.f24 = true := by kernel_rfl
theorem nd24 : (loopIds (bodyOf Try.f24)).Nodup := by decide +kernel
theorem cb25 : callable Try.prog 25 = true := by kernel_rfl
theorem ok25 : okFunc (cx.at 25) Try.f25 = true := by kernel_rfl
theorem nd25 : (loopIds (bodyOf Try.f25)).Nodup := by decide +kernel
theorem cb26 : callable Try.prog 26 = true := by kernel_rfl
theorem ok26 : okFunc (cx.at 26) Try.f26 = true := by kernel_rfl
theorem nd26 : (loopIds (bodyOf Try.f26)).Nodup := by decide +kernel
theorem cb27 : callable Try.prog 27 = true := by kernel_rfl
theorem ok27 : okFunc (cx.at 27) Try.f27 = true := by kernel_rfl
theorem nd27 : (loopIds (bodyOf Try.f27)).Nodup := by decide +kernel
theorem cb28 : callable Try.prog 28 = true := by kernel_rfl
theorem ok28 : okFunc (cx.at 28) Try.f28 = true := by kernel_rfl
theorem nd28 : (loopIds (bodyOf Try.f28)).Nodup := by decide +kernel
theorem cb29 : callable Try.prog 29 = true := by kernel_rfl
theorem ok29 : okFunc (cx.at 29) Try.f29 = true := by kernel_rfl
theorem nd29 : (loopIds (bodyOf Try.f29)).Nodup := by decide +kernel
theorem cb30 : callable Try.prog 30 = true := by kernel_rfl
theorem ok30 : okFunc (cx.at 30) Try.f30 = true := by kernel_rfl
theorem nd30 : (loopIds (bodyOf Try.f30)).Nodup := by decide +kernel
theorem cb31 : callable Try.prog 31 = true := by kernel_rfl
theorem ok31 : okFunc (cx.at 31) Try.f31 = true := by kernel_rfl
theorem nd31 : (loopIds (bodyOf Try.f31)).Nodup := by decide +kernel
theorem cb32 : callable Try.prog 32 = true := by kernel_rfl
theorem ok32 : okFunc (cx.at 32) Try.f32 = true := by kernel_rfl
theorem nd32 : (loopIds (bodyOf Try.f32)).Nodup := by decide +kernel
theorem cb33 : callable Try.prog 33 = true := by kernel_rfl
theorem ok33 : okFunc (cx.at 33) Try.f33 = true := by kernel_rfl
theorem nd33 : (loopIds (bodyOf Try.f33)).Nodup := by decide +kernel
theorem cb34 : callable Try.prog 34 = true := by kernel_rfl
theorem ok34 : okFunc (cx.at 34) Try.f34 = true := by kernel_rfl
theorem nd34 : (loopIds (bodyOf Try.f34)).Nodup := by decide +kernel
theorem cb35 : callable Try.prog 35 = true := by kernel_rfl
theorem ok35 : okFunc (cx.at 35) Try.f35 = true := by kernel_rfl
theorem nd35 : (loopIds (bodyOf Try.f35)).Nodup := by decide +kernel
theorem cb36 : callable Try.prog 36 = true := by kernel_rfl
theorem ok36 : okFunc (cx.at 36) Try.f36 = true := by kernel_rfl
theorem nd36 : (loopIds (bodyOf Try.f36)).Nodup := by decide +kernel
theorem cb37 : callable Try.prog 37 = true := by kernel_rfl
theorem ok37 : okFunc (cx.at 37) Try.f37 = true := by kernel_rfl
theorem nd37 : (loopIds (bodyOf Try.f37)).Nodup := by decide +kernel
theorem cb38 : callable Try.prog 38 = true := by kernel_rfl
theorem ok38 : okFunc (cx.at 38) Try.f38 = true := by kernel_rfl
theorem nd38 : (loopIds (bodyOf Try.f38)).Nodup := by decide +kernel
theorem cb39 : callable Try.prog 39 = true := by kernel_rfl
theorem ok39 : okFunc (cx.at 39) Try.f39 = true := by kernel_rfl
theorem nd39 : (loopIds (bodyOf Try.f39)).Nodup := by decide +kernel
theorem cb40 : callable Try.prog 40 = true := by kernel_rfl
theorem ok40 : okFunc (cx.at 40) Try.f40 = true := by kernel_rfl
theorem nd40 : (loopIds (bodyOf Try.f40)).Nodup := by decide +kernel
theorem cb41 : callable Try.prog 41 = true := by kernel_rfl
theorem ok41 : okFunc (cx.at 41) Try.f41 = true := by kernel_rfl
theorem nd41 : (loopIds (bodyOf Try.f41)).Nodup := by decide +kernel
theorem cb42 : callable Try.prog 42 = true := by kernel_rfl
theorem ok42 : okFunc (cx.at 42) Try.f42 = true := by kernel_rfl
theorem nd42 : (loopIds (bodyOf Try.f42)).Nodup := by decide +kernel
theorem cb43 : callable Try.prog 43 = true := by kernel_rfl
theorem ok43 : okFunc (cx.at 43) Try.f43 = true := by kernel_rfl
theorem nd43 : (loopIds (bodyOf Try.f43)).Nodup := by decide +kernel
theorem cb44 : callable Try.prog 44 = true := by kernel_rfl
theorem ok44 : okFunc (cx.at 44) Try.f44 = true := by kernel_rfl
theorem nd44 : (loopIds (bodyOf Try.f44)).Nodup := by decide +kernel
theorem cb45 : callable Try.prog 45 = true := by kernel_rfl
theorem ok45 : okFunc (cx.at 45) Try.f45 = true := by kernel_rfl
theorem nd45 : (loopIds (bodyOf Try.f45)).Nodup := by decide +kernel
theorem cb46 : callable Try.prog 46 = true := by kernel_rfl
theorem ok46 : okFunc (cx.at 46) Try.f46 = true := by kernel_rfl
theorem nd46 : (loopIds (bodyOf Try.f46)).Nodup := by decide +kernel
theorem cb47 : callable Try.prog 47 = true := by kernel_rfl
theorem ok47 : okFunc (cx.at 47) Try.f47 = true := by kernel_rfl
theorem nd47 : (loopIds (bodyOf Try.f47)).Nodup := by decide +kernel
theorem cb48 : callable Try.prog 48 = true := by kernel_rfl
theorem ok48 : okFunc (cx.at 48) Try.f48 = true := by kernel_rfl
theorem nd48 : (loopIds (bodyOf Try.f48)).Nodup := by decide +kernel
theorem cb49 : callable Try.prog 49 = true := by kernel_rfl
theorem ok49 : okFunc (cx.at 49) Try.f49 = true := by kernel_rfl
theorem nd49 : (loopIds (bodyOf Try.f49)).Nodup := by decide +kernel
theorem cb50 : callable Try.prog 50 = true := by kernel_rfl
theorem ok50 : okFunc (cx.at 50) Try.f50 = true := by kernel_rfl
theorem nd50 : (loopIds (bodyOf Try.f50)).Nodup := by decide +kernel
theorem cb51 : callable Try.prog 51 = true := by kernel_rfl
theorem ok51 : okFunc (cx.at 51) Try.f51 = true := by kernel_rfl
theorem nd51 : (loopIds (bodyOf Try.f51)).Nodup := by decide +kernel
theorem cb52 : callable Try.prog 52 = true := by kernel_rfl
theorem ok52 : okFunc (cx.at 52) Try.f52 = true := by kernel_rfl
theorem nd52 : (loopIds (bodyOf Try.f52)).Nodup := by decide +kernel
theorem cb53 : callable Try.prog 53 = true := by kernel_rfl
theorem ok53 : okFunc (cx.at 53) Try.f53 = true := by kernel_rfl
theorem nd53 : (loopIds (bodyOf Try.f53)).Nodup := by decide +kernel
theorem cb54 : callable Try.prog 54 = true := by kernel_rfl
theorem ok54 : okFunc (cx.at 54) Try.f54 = true := by kernel_rfl
theorem nd54 : (loopIds (bodyOf Try.f54)).Nodup := by decide +kernel
theorem cb55 : callable Try.prog 55 = true := by kernel_rfl
theorem ok55 : okFunc (cx.at 55) Try.f55 = true := by kernel_rfl
theorem nd55 : (loopIds (bodyOf Try.f55)).Nodup := by decide +kernel
theorem cb56 : callable Try.prog 56 = true := by kernel_rfl
theorem ok56 : okFunc (cx.at 56) Try.f56 = true := by kernel_rfl
theorem nd56 : (loopIds (bodyOf Try.f56)).Nodup := by decide +kernel
theorem cb57 : callable Try.prog 57 = true := by kernel_rfl
theorem ok57 : okFunc (cx.at 57) Try.f57 = true := by kernel_rfl
theorem nd57 : (loopIds (bodyOf Try.f57)).Nodup := by decide +kernel
theorem cb58 : callable Try.prog 58 = true := by kernel_rfl
theorem ok58 : okFunc (cx.at 58) Try.f58 = true := by kernel_rfl
theorem nd58 : (loopIds (bodyOf Try.f58)).Nodup := by decide +kernel
theorem cb59 : callable Try.prog 59 = true := by kernel_rfl
theorem ok59 : okFunc (cx.at 59) Try.f59 = true := by kernel_rfl
theorem nd59 : (loopIds (bodyOf Try.f59)).Nodup := by decide +kernel
theorem cb60 : callable Try.prog 60 = true := by kernel_rfl
theorem ok60 : okFunc (cx.at 60) Try.f60 = true := by kernel_rfl
theorem nd60 : (loopIds (bodyOf Try.f60)).Nodup := by decide +kernel
theorem cb61 : callable Try.prog 61 = true := by kernel_rfl
theorem ok61 : okFunc (cx.at 61) Try.f61 = true := by kernel_rfl
theorem nd61 : (loopIds (bodyOf Try.f61)).Nodup := by decide +kernel
theorem cb62 : callable Try.prog 62 = true := by kernel_rfl
theorem ok62 : okFunc (cx.at 62) Try.f62 = true := by kernel_rfl
theorem nd62 : (loopIds (bodyOf Try.f62)).Nodup := by decide +kernel
theorem cb63 : callable Try.prog 63 = true := by kernel_rfl
theorem ok63 : okFunc (cx.at 63) Try.f63 = true := by kernel_rfl
theorem nd63 : (loopIds (bodyOf Try.f63)).Nodup := by decide +kernel
theorem cb64 : callable Try.prog 64 = true := by kernel_rfl
theorem ok64 : okFunc (cx.at 64) Try.f64 = true := by kernel_rfl
theorem nd64 : (loopIds (bodyOf Try.f64)).Nodup := by decide +kernel
theorem cb65 : callable Try.prog 65 = true := by kernel_rfl
theorem ok65 : okFunc (cx.at 65) Try.f65 = true := by kernel_rfl
theorem nd65 : (loopIds (bodyOf Try.f65)).Nodup := by decide +kernel
theorem cb66 : callable Try.prog 66 = true := by kernel_rfl
theorem ok66 : okFunc (cx.at 66) Try.f66 = true := by kernel_rfl
theorem nd66 : (loopIds (bodyOf Try.f66)).Nodup := by decide +kernel
theorem cb67 : callable Try.prog 67 = true := by kernel_rfl
theorem ok67 : okFunc (cx.at 67) Try.f67 = true := by kernel_rfl
theorem nd67 : (loopIds (bodyOf Try.f67)).Nodup := by decide +kernel
theorem cb68 : callable Try.prog 68 = true := by kernel_rfl
theorem ok68 : okFunc (cx.at 68) Try.f68 = true := by kernel_rfl
theorem nd68 : (loopIds (bodyOf Try.f68)).Nodup := by decide +kernel
theorem cb69 : callable Try.prog 69 = true := by kernel_rfl
theorem ok69 : okFunc (cx.at 69) Try.f69 = true := by kernel_rfl
theorem nd69 : (loopIds (bodyOf Try.f69)).Nodup := by decide +kernel
theorem cb70 : callable Try.prog 70 = true := by kernel_rfl
theorem ok70 : okFunc (cx.at 70) Try.f70 = true := by kernel_rfl
theorem nd70 : (loopIds (bodyOf Try.f70)).Nodup := by decide +kernel
theorem cb71 : callable Try.prog 71 = true := by kernel_rfl
theorem ok71 : okFunc (cx.at 71) Try.f71 = true := by kernel_rfl
theorem nd71 : (loopIds (bodyOf Try.f71)).Nodup := by decide +kernel
theorem cb72 : callable Try.prog 72 = true := by kernel_rfl
theorem ok72 : okFunc (cx.at 72) Try.f72 = true := by kernel_rfl
theorem nd72 : (loopIds (bodyOf Try.f72)).Nodup := by decide +kernel
theorem cb73 : callable Try.prog 73 = true := by kernel_rfl
theorem ok73 : okFunc (cx.at 73) Try.f73 = true := by kernel_rfl
theorem nd73 : (loopIds (bodyOf Try.f73)).Nodup := by decide +kernel
theorem cb74 : callable Try.prog 74 = true := by kernel_rfl
theorem ok74 : okFunc (cx.at 74) Try.f74 = true := by kernel_rfl
theorem nd74 : (loopIds (bodyOf Try.f74)).Nodup := by decide +kernel
theorem cb75 : callable Try.prog 75 = true := by kernel_rfl
theorem ok75 : okFunc (cx.at 75) Try.f75 = true := by kernel_rfl
theorem nd75 : (loopIds (bodyOf Try.f75)).Nodup := by decide +kernel
theorem cb76 : callable Try.prog 76 = true := by kernel_rfl
theorem ok76 : okFunc (cx.at 76) Try.f76 = true := by kernel_rfl
theorem nd76 : (loopIds (bodyOf Try.f76)).Nodup := by decide +kernel
theorem cb77 : callable Try.prog 77 = true := by kernel_rfl
theorem ok77 : okFunc (cx.at 77) Try.f77 = true := by kernel_rfl
theorem nd77 : (loopIds (bodyOf Try.f77)).Nodup := by decide +kernel
theorem cb78 : callable Try.prog 78 = true := by kernel_rfl
theorem ok78 : okFunc (cx.at 78) Try.f78 = true := by kernel_rfl
theorem nd78 : (loopIds (bodyOf Try.f78)).Nodup := by decide +kernel
theorem cb79 : callable Try.prog 79 = true := by kernel_rfl
theorem ok79 : okFunc (cx.at 79) Try.f79 = true := by kernel_rfl
theorem nd79 : (loopIds (bodyOf Try.f79)).Nodup := by decide +kernel
theorem cb80 : callable Try.prog 80 = true := by kernel_rfl
theorem ok80 : okFunc (cx.at 80) Try.f80 = true := by kernel_rfl
theorem nd80 : (loopIds (bodyOf Try.f80)).Nodup := by decide +kernel
theorem cb81 : callable Try.prog 81 = true := by kernel_rfl
theorem ok81 : okFunc (cx.at 81) Try.f81 = true := by kernel_rfl
theorem nd81 : (loopIds (bodyOf Try.f81)).Nodup := by decide +kernel
theorem cb82 : callable Try.prog 82 = true := by kernel_rfl
theorem ok82 : okFunc (cx.at 82) Try.f82 = true := by kernel_rfl
theorem nd82 : (loopIds (bodyOf Try.f82)).Nodup := by decide +kernel
theorem cb83 : callable Try.prog 83 = true := by kernel_rfl
theorem ok83 : okFunc (cx.at 83) Try.f83 = true := by kernel_rfl
theorem nd83 : (loopIds (bodyOf Try.f83)).Nodup := by decide +kernel
theorem cb84 : callable Try.prog 84 = true := by kernel_rfl
theorem ok84 : okFunc (cx.at 84) Try.f84 = true := by kernel_rfl
theorem nd84 : (loopIds (bodyOf Try.f84)).Nodup := by decide +kernel
theorem cb85 : callable Try.prog 85 = true := by kernel_rfl
theorem ok85 : okFunc (cx.at 85) Try.f85 = true := by kernel_rfl
theorem nd85 : (loopIds (bodyOf Try.f85)).Nodup := by decide +kernel
theorem cb86 : callable Try.prog 86 = true := by kernel_rfl
theorem ok86 : okFunc (cx.at 86) Try.f86 = true := by kernel_rfl
theorem nd86 : (loopIds (bodyOf Try.f86)).Nodup := by decide +kernel
theorem cb87 : callable Try.prog 87 = true := by kernel_rfl
theorem ok87 : okFunc (cx.at 87) Try.f87 = true := by kernel_rfl
theorem nd87 : (loopIds (bodyOf Try.f87)).Nodup := by decide +kernel
theorem cb88 : callable Try.prog 88 = true := by kernel_rfl
theorem ok88 : okFunc (cx.at 88) Try.f88 = true := by kernel_rfl
theorem nd88 : (loopIds (bodyOf Try.f88)).Nodup := by decide +kernel
theorem cb89 : callable Try.prog 89 = true := by kernel_rfl
theorem ok89 : okFunc (cx.at 89) Try.f89 = true := by kernel_rfl
theorem nd89 : (loopIds (bodyOf Try.f89)).Nodup := by decide +kernel
theorem cb90 : callable Try.prog 90 = true := by kernel_rfl
theorem ok90 : okFunc (cx.at 90) Try.f90 = true := by kernel_rfl
theorem nd90 : (loopIds (bodyOf Try.f90)).Nodup := by decide +kernel
theorem cb91 : callable Try.prog 91 = true := by kernel_rfl
theorem ok91 : okFunc (cx.at 91) Try.f91 = true := by kernel_rfl
theorem nd91 : (loopIds (bodyOf Try.f91)).Nodup := by decide +kernel
theorem cb92 : callable Try.prog 92 = true := by kernel_rfl
theorem ok92 : okFunc (cx.at 92) Try.f92 = true := by kernel_rfl
theorem nd92 : (loopIds (bodyOf Try.f92)).Nodup := by decide +kernel
theorem cb109 : callable Try.prog 109 = true := by kernel_rfl
theorem ok109 : okFunc (cx.at 109) Try.f109 = true := by kernel_rfl
theorem nd109 : (loopIds (bodyOf Try.f109)).Nodup := by decide +kernel
theorem cb110 : callable Try.prog 110 = true := by kernel_rfl
theorem ok110 : okFunc (cx.at 110) Try.f110 = true := by kernel_rfl
theorem nd110 : (loopIds (bodyOf Try.f110)).Nodup := by decide +kernel
theorem cb111 : callable Try.prog 111 = true := by kernel_rfl
theorem ok111 : okFunc (cx.at 111) Try.f111 = true := by kernel_rfl
theorem nd111 : (loopIds (bodyOf Try.f111)).Nodup := by decide +kernel
theorem cb112 : callable Try.prog 112 = true := by kernel_rfl
theorem ok112 : okFunc (cx.at 112) Try.f112 = true := by kernel_rfl
theorem nd112 : (loopIds (bodyOf Try.f112)).Nodup := by decide +kernel
theorem cb113 : callable Try.prog 113 = true := by kernel_rfl
theorem ok113 : okFunc (cx.at 113) Try.f113 = true := by kernel_rfl
theorem nd113 : (loopIds (bodyOf Try.f113)).Nodup := by decide +kernel
end Go.Proofs.Ytccajagfgdchlaa
