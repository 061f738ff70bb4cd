import Derived.Test.YtlcbhhmnfmeoeaaGreatDoorVaiD
import Derived.Test.YtlcbhhmnfmeoeaaGreatDoorRows
import Derived.Shelf.Spec.SlicesInsertGrow
import Derived.WalkKit
import Derived.Lib.ParseIntBMem
import Derived.Shelf.Small.Strs
set_option linter.unusedSimpArgs false
set_option linter.unusedVariables false
set_option linter.unusedSectionVars false
/-
  BY PROGRAM (wip/vai/Gen.lean): what the seat's types are.
-/
namespace Go.Proofs.YtlcbhhmnfmeoeaaGreatDoor
open Vai
theorem tk1 : tk Tryz.prog 1 = .func := by kernel_rfl
theorem sz1 : sz Tryz.prog 1 = some 1 := by kernel_rfl
theorem byt1 : byt Tryz.prog 1 = some 8 := by kernel_rfl
theorem zero1 : zeroT Tryz.prog 1 = some (.nilFunc) := by kernel_rfl
theorem tk2 : tk Tryz.prog 2 = .int .i64 := by kernel_rfl
theorem sz2 : sz Tryz.prog 2 = some 1 := by kernel_rfl
theorem byt2 : byt Tryz.prog 2 = some 8 := by kernel_rfl
theorem zero2 : zeroT Tryz.prog 2 = some (.int .i64 0) := by kernel_rfl
theorem tk3 : tk Tryz.prog 3 = .int .i64 := by kernel_rfl
theorem sz3 : sz Tryz.prog 3 = some 1 := by kernel_rfl
theorem byt3 : byt Tryz.prog 3 = some 8 := by kernel_rfl
theorem zero3 : zeroT Tryz.prog 3 = some (.int .i64 0) := by kernel_rfl
theorem tk4 : tk Tryz.prog 4 = .bool := by kernel_rfl
theorem sz4 : sz Tryz.prog 4 = some 1 := by kernel_rfl
theorem byt4 : byt Tryz.prog 4 = some 1 := by kernel_rfl
theorem zero4 : zeroT Tryz.prog 4 = some (.bool false) := by kernel_rfl
theorem tk5 : tk Tryz.prog 5 = .int .u8 := by kernel_rfl
theorem sz5 : sz Tryz.prog 5 = some 1 := by kernel_rfl
theorem byt5 : byt Tryz.prog 5 = some 1 := by kernel_rfl
theorem zero5 : zeroT Tryz.prog 5 = some (.int .u8 0) := by kernel_rfl
theorem tk6 : tk Tryz.prog 6 = .int .u8 := by kernel_rfl
theorem sz6 : sz Tryz.prog 6 = some 1 := by kernel_rfl
theorem byt6 : byt Tryz.prog 6 = some 1 := by kernel_rfl
theorem zero6 : zeroT Tryz.prog 6 = some (.int .u8 0) := by kernel_rfl
theorem tk7 : tk Tryz.prog 7 = .struct [(0, 2), (1, 3), (2, 4), (3, 6)] := by kernel_rfl
theorem sz7 : sz Tryz.prog 7 = some 4 := by kernel_rfl
theorem byt7 : byt Tryz.prog 7 = some 24 := by kernel_rfl
theorem zero7 : zeroT Tryz.prog 7 = some (.agg [.int .i64 0, .int .i64 0, .bool false, .int .u8 0]) := by kernel_rfl
theorem tk8 : tk Tryz.prog 8 = .struct [(0, 2), (1, 3), (2, 4), (3, 6)] := by kernel_rfl
theorem sz8 : sz Tryz.prog 8 = some 4 := by kernel_rfl
theorem byt8 : byt Tryz.prog 8 = some 24 := by kernel_rfl
theorem zero8 : zeroT Tryz.prog 8 = some (.agg [.int .i64 0, .int .i64 0, .bool false, .int .u8 0]) := by kernel_rfl
theorem tk9 : tk Tryz.prog 9 = .str := by kernel_rfl
theorem sz9 : sz Tryz.prog 9 = some 1 := by kernel_rfl
theorem byt9 : byt Tryz.prog 9 = some 16 := by kernel_rfl
theorem zero9 : zeroT Tryz.prog 9 = some (.str ⟨#[]⟩) := by kernel_rfl
theorem tk10 : tk Tryz.prog 10 = .str := by kernel_rfl
theorem sz10 : sz Tryz.prog 10 = some 1 := by kernel_rfl
theorem byt10 : byt Tryz.prog 10 = some 16 := by kernel_rfl
theorem zero10 : zeroT Tryz.prog 10 = some (.str ⟨#[]⟩) := by kernel_rfl
theorem tk11 : tk Tryz.prog 11 = .str := by kernel_rfl
theorem sz11 : sz Tryz.prog 11 = some 1 := by kernel_rfl
theorem byt11 : byt Tryz.prog 11 = some 16 := by kernel_rfl
theorem zero11 : zeroT Tryz.prog 11 = some (.str ⟨#[]⟩) := by kernel_rfl
theorem tk12 : tk Tryz.prog 12 = .int .u64 := by kernel_rfl
theorem sz12 : sz Tryz.prog 12 = some 1 := by kernel_rfl
theorem byt12 : byt Tryz.prog 12 = some 8 := by kernel_rfl
theorem zero12 : zeroT Tryz.prog 12 = some (.int .u64 0) := by kernel_rfl
theorem tk13 : tk Tryz.prog 13 = .struct [(0, 9), (1, 12)] := by kernel_rfl
theorem sz13 : sz Tryz.prog 13 = some 2 := by kernel_rfl
theorem byt13 : byt Tryz.prog 13 = some 24 := by kernel_rfl
theorem zero13 : zeroT Tryz.prog 13 = some (.agg [.str ⟨#[]⟩, .int .u64 0]) := by kernel_rfl
theorem tk14 : tk Tryz.prog 14 = .struct [(0, 9), (1, 12)] := by kernel_rfl
theorem sz14 : sz Tryz.prog 14 = some 2 := by kernel_rfl
theorem byt14 : byt Tryz.prog 14 = some 24 := by kernel_rfl
theorem zero14 : zeroT Tryz.prog 14 = some (.agg [.str ⟨#[]⟩, .int .u64 0]) := by kernel_rfl
theorem tk15 : tk Tryz.prog 15 = .ptr 178 := by kernel_rfl
theorem sz15 : sz Tryz.prog 15 = some 1 := by kernel_rfl
theorem byt15 : byt Tryz.prog 15 = some 8 := by kernel_rfl
theorem zero15 : zeroT Tryz.prog 15 = some (.nilPtr) := by kernel_rfl
theorem tk16 : tk Tryz.prog 16 = .ptr 181 := by kernel_rfl
theorem sz16 : sz Tryz.prog 16 = some 1 := by kernel_rfl
theorem byt16 : byt Tryz.prog 16 = some 8 := by kernel_rfl
theorem zero16 : zeroT Tryz.prog 16 = some (.nilPtr) := by kernel_rfl
theorem tk17 : tk Tryz.prog 17 = .ptr 189 := by kernel_rfl
theorem sz17 : sz Tryz.prog 17 = some 1 := by kernel_rfl
theorem byt17 : byt Tryz.prog 17 = some 8 := by kernel_rfl
theorem zero17 : zeroT Tryz.prog 17 = some (.nilPtr) := by kernel_rfl
theorem tk18 : tk Tryz.prog 18 = .struct [(0, 17)] := by kernel_rfl
theorem sz18 : sz Tryz.prog 18 = some 1 := by kernel_rfl
theorem byt18 : byt Tryz.prog 18 = some 8 := by kernel_rfl
theorem zero18 : zeroT Tryz.prog 18 = some (.agg [.nilPtr]) := by kernel_rfl
theorem tk19 : tk Tryz.prog 19 = .struct [(0, 17)] := by kernel_rfl
theorem sz19 : sz Tryz.prog 19 = some 1 := by kernel_rfl
theorem byt19 : byt Tryz.prog 19 = some 8 := by kernel_rfl
theorem zero19 : zeroT Tryz.prog 19 = some (.agg [.nilPtr]) := by kernel_rfl
theorem tk20 : tk Tryz.prog 20 = .iface := by kernel_rfl
theorem sz20 : sz Tryz.prog 20 = some 1 := by kernel_rfl
theorem byt20 : byt Tryz.prog 20 = some 16 := by kernel_rfl
theorem zero20 : zeroT Tryz.prog 20 = some (.nilIface) := by kernel_rfl
theorem tk21 : tk Tryz.prog 21 = .int .i32 := by kernel_rfl
theorem sz21 : sz Tryz.prog 21 = some 1 := by kernel_rfl
theorem byt21 : byt Tryz.prog 21 = some 4 := by kernel_rfl
theorem zero21 : zeroT Tryz.prog 21 = some (.int .i32 0) := by kernel_rfl
theorem tk22 : tk Tryz.prog 22 = .struct [(0, 3), (1, 2), (2, 9)] := by kernel_rfl
theorem sz22 : sz Tryz.prog 22 = some 3 := by kernel_rfl
theorem byt22 : byt Tryz.prog 22 = some 32 := by kernel_rfl
theorem zero22 : zeroT Tryz.prog 22 = some (.agg [.int .i64 0, .int .i64 0, .str ⟨#[]⟩]) := by kernel_rfl
theorem tk23 : tk Tryz.prog 23 = .struct [(0, 3), (1, 2), (2, 9)] := by kernel_rfl
theorem sz23 : sz Tryz.prog 23 = some 3 := by kernel_rfl
theorem byt23 : byt Tryz.prog 23 = some 32 := by kernel_rfl
theorem zero23 : zeroT Tryz.prog 23 = some (.agg [.int .i64 0, .int .i64 0, .str ⟨#[]⟩]) := by kernel_rfl
theorem tk25 : tk Tryz.prog 25 = .func := by kernel_rfl
theorem sz25 : sz Tryz.prog 25 = some 1 := by kernel_rfl
theorem byt25 : byt Tryz.prog 25 = some 8 := by kernel_rfl
theorem zero25 : zeroT Tryz.prog 25 = some (.nilFunc) := by kernel_rfl
theorem tk26 : tk Tryz.prog 26 = .func := by kernel_rfl
theorem sz26 : sz Tryz.prog 26 = some 1 := by kernel_rfl
theorem byt26 : byt Tryz.prog 26 = some 8 := by kernel_rfl
theorem zero26 : zeroT Tryz.prog 26 = some (.nilFunc) := by kernel_rfl
theorem tk27 : tk Tryz.prog 27 = .func := by kernel_rfl
theorem sz27 : sz Tryz.prog 27 = some 1 := by kernel_rfl
theorem byt27 : byt Tryz.prog 27 = some 8 := by kernel_rfl
theorem zero27 : zeroT Tryz.prog 27 = some (.nilFunc) := by kernel_rfl
theorem tk28 : tk Tryz.prog 28 = .func := by kernel_rfl
theorem sz28 : sz Tryz.prog 28 = some 1 := by kernel_rfl
theorem byt28 : byt Tryz.prog 28 = some 8 := by kernel_rfl
theorem zero28 : zeroT Tryz.prog 28 = some (.nilFunc) := by kernel_rfl
theorem tk29 : tk Tryz.prog 29 = .func := by kernel_rfl
theorem sz29 : sz Tryz.prog 29 = some 1 := by kernel_rfl
theorem byt29 : byt Tryz.prog 29 = some 8 := by kernel_rfl
theorem zero29 : zeroT Tryz.prog 29 = some (.nilFunc) := by kernel_rfl
theorem tk30 : tk Tryz.prog 30 = .func := by kernel_rfl
theorem sz30 : sz Tryz.prog 30 = some 1 := by kernel_rfl
theorem byt30 : byt Tryz.prog 30 = some 8 := by kernel_rfl
theorem zero30 : zeroT Tryz.prog 30 = some (.nilFunc) := by kernel_rfl
theorem tk31 : tk Tryz.prog 31 = .slice 34 := by kernel_rfl
theorem sz31 : sz Tryz.prog 31 = some 1 := by kernel_rfl
theorem byt31 : byt Tryz.prog 31 = some 24 := by kernel_rfl
theorem zero31 : zeroT Tryz.prog 31 = some (.nilSlice) := by kernel_rfl
theorem tk32 : tk Tryz.prog 32 = .func := by kernel_rfl
theorem sz32 : sz Tryz.prog 32 = some 1 := by kernel_rfl
theorem byt32 : byt Tryz.prog 32 = some 8 := by kernel_rfl
theorem zero32 : zeroT Tryz.prog 32 = some (.nilFunc) := by kernel_rfl
theorem tk33 : tk Tryz.prog 33 = .struct [(0, 9), (1, 23)] := by kernel_rfl
theorem sz33 : sz Tryz.prog 33 = some 4 := by kernel_rfl
theorem byt33 : byt Tryz.prog 33 = some 48 := by kernel_rfl
theorem zero33 : zeroT Tryz.prog 33 = some (.agg [.str ⟨#[]⟩, .int .i64 0, .int .i64 0, .str ⟨#[]⟩]) := by kernel_rfl
theorem tk34 : tk Tryz.prog 34 = .struct [(0, 9), (1, 23)] := by kernel_rfl
theorem sz34 : sz Tryz.prog 34 = some 4 := by kernel_rfl
theorem byt34 : byt Tryz.prog 34 = some 48 := by kernel_rfl
theorem zero34 : zeroT Tryz.prog 34 = some (.agg [.str ⟨#[]⟩, .int .i64 0, .int .i64 0, .str ⟨#[]⟩]) := by kernel_rfl
theorem tk35 : tk Tryz.prog 35 = .func := by kernel_rfl
theorem sz35 : sz Tryz.prog 35 = some 1 := by kernel_rfl
theorem byt35 : byt Tryz.prog 35 = some 8 := by kernel_rfl
theorem zero35 : zeroT Tryz.prog 35 = some (.nilFunc) := by kernel_rfl
theorem tk36 : tk Tryz.prog 36 = .func := by kernel_rfl
theorem sz36 : sz Tryz.prog 36 = some 1 := by kernel_rfl
theorem byt36 : byt Tryz.prog 36 = some 8 := by kernel_rfl
theorem zero36 : zeroT Tryz.prog 36 = some (.nilFunc) := by kernel_rfl
theorem tk37 : tk Tryz.prog 37 = .func := by kernel_rfl
theorem sz37 : sz Tryz.prog 37 = some 1 := by kernel_rfl
theorem byt37 : byt Tryz.prog 37 = some 8 := by kernel_rfl
theorem zero37 : zeroT Tryz.prog 37 = some (.nilFunc) := by kernel_rfl
theorem tk38 : tk Tryz.prog 38 = .slice 45 := by kernel_rfl
theorem sz38 : sz Tryz.prog 38 = some 1 := by kernel_rfl
theorem byt38 : byt Tryz.prog 38 = some 24 := by kernel_rfl
theorem zero38 : zeroT Tryz.prog 38 = some (.nilSlice) := by kernel_rfl
theorem tk39 : tk Tryz.prog 39 = .func := by kernel_rfl
theorem sz39 : sz Tryz.prog 39 = some 1 := by kernel_rfl
theorem byt39 : byt Tryz.prog 39 = some 8 := by kernel_rfl
theorem zero39 : zeroT Tryz.prog 39 = some (.nilFunc) := by kernel_rfl
theorem tk40 : tk Tryz.prog 40 = .func := by kernel_rfl
theorem sz40 : sz Tryz.prog 40 = some 1 := by kernel_rfl
theorem byt40 : byt Tryz.prog 40 = some 8 := by kernel_rfl
theorem zero40 : zeroT Tryz.prog 40 = some (.nilFunc) := by kernel_rfl
theorem tk41 : tk Tryz.prog 41 = .func := by kernel_rfl
theorem sz41 : sz Tryz.prog 41 = some 1 := by kernel_rfl
theorem byt41 : byt Tryz.prog 41 = some 8 := by kernel_rfl
theorem zero41 : zeroT Tryz.prog 41 = some (.nilFunc) := by kernel_rfl
theorem tk42 : tk Tryz.prog 42 = .func := by kernel_rfl
theorem sz42 : sz Tryz.prog 42 = some 1 := by kernel_rfl
theorem byt42 : byt Tryz.prog 42 = some 8 := by kernel_rfl
theorem zero42 : zeroT Tryz.prog 42 = some (.nilFunc) := by kernel_rfl
theorem tk43 : tk Tryz.prog 43 = .func := by kernel_rfl
theorem sz43 : sz Tryz.prog 43 = some 1 := by kernel_rfl
theorem byt43 : byt Tryz.prog 43 = some 8 := by kernel_rfl
theorem zero43 : zeroT Tryz.prog 43 = some (.nilFunc) := by kernel_rfl
theorem tk44 : tk Tryz.prog 44 = .struct [(0, 9), (1, 3)] := by kernel_rfl
theorem sz44 : sz Tryz.prog 44 = some 2 := by kernel_rfl
theorem byt44 : byt Tryz.prog 44 = some 24 := by kernel_rfl
theorem zero44 : zeroT Tryz.prog 44 = some (.agg [.str ⟨#[]⟩, .int .i64 0]) := by kernel_rfl
theorem tk45 : tk Tryz.prog 45 = .struct [(0, 9), (1, 3)] := by kernel_rfl
theorem sz45 : sz Tryz.prog 45 = some 2 := by kernel_rfl
theorem byt45 : byt Tryz.prog 45 = some 24 := by kernel_rfl
theorem zero45 : zeroT Tryz.prog 45 = some (.agg [.str ⟨#[]⟩, .int .i64 0]) := by kernel_rfl
theorem tk46 : tk Tryz.prog 46 = .func := by kernel_rfl
theorem sz46 : sz Tryz.prog 46 = some 1 := by kernel_rfl
theorem byt46 : byt Tryz.prog 46 = some 8 := by kernel_rfl
theorem zero46 : zeroT Tryz.prog 46 = some (.nilFunc) := by kernel_rfl
theorem tk48 : tk Tryz.prog 48 = .func := by kernel_rfl
theorem sz48 : sz Tryz.prog 48 = some 1 := by kernel_rfl
theorem byt48 : byt Tryz.prog 48 = some 8 := by kernel_rfl
theorem zero48 : zeroT Tryz.prog 48 = some (.nilFunc) := by kernel_rfl
theorem tk49 : tk Tryz.prog 49 = .iface := by kernel_rfl
theorem sz49 : sz Tryz.prog 49 = some 1 := by kernel_rfl
theorem byt49 : byt Tryz.prog 49 = some 16 := by kernel_rfl
theorem zero49 : zeroT Tryz.prog 49 = some (.nilIface) := by kernel_rfl
theorem tk50 : tk Tryz.prog 50 = .iface := by kernel_rfl
theorem sz50 : sz Tryz.prog 50 = some 1 := by kernel_rfl
theorem byt50 : byt Tryz.prog 50 = some 16 := by kernel_rfl
theorem zero50 : zeroT Tryz.prog 50 = some (.nilIface) := by kernel_rfl
theorem tk52 : tk Tryz.prog 52 = .func := by kernel_rfl
theorem sz52 : sz Tryz.prog 52 = some 1 := by kernel_rfl
theorem byt52 : byt Tryz.prog 52 = some 8 := by kernel_rfl
theorem zero52 : zeroT Tryz.prog 52 = some (.nilFunc) := by kernel_rfl
theorem tk53 : tk Tryz.prog 53 = .func := by kernel_rfl
theorem sz53 : sz Tryz.prog 53 = some 1 := by kernel_rfl
theorem byt53 : byt Tryz.prog 53 = some 8 := by kernel_rfl
theorem zero53 : zeroT Tryz.prog 53 = some (.nilFunc) := by kernel_rfl
theorem tk55 : tk Tryz.prog 55 = .func := by kernel_rfl
theorem sz55 : sz Tryz.prog 55 = some 1 := by kernel_rfl
theorem byt55 : byt Tryz.prog 55 = some 8 := by kernel_rfl
theorem zero55 : zeroT Tryz.prog 55 = some (.nilFunc) := by kernel_rfl
theorem tk56 : tk Tryz.prog 56 = .slice 5 := by kernel_rfl
theorem sz56 : sz Tryz.prog 56 = some 1 := by kernel_rfl
theorem byt56 : byt Tryz.prog 56 = some 24 := by kernel_rfl
theorem zero56 : zeroT Tryz.prog 56 = some (.nilSlice) := by kernel_rfl
theorem tk57 : tk Tryz.prog 57 = .func := by kernel_rfl
theorem sz57 : sz Tryz.prog 57 = some 1 := by kernel_rfl
theorem byt57 : byt Tryz.prog 57 = some 8 := by kernel_rfl
theorem zero57 : zeroT Tryz.prog 57 = some (.nilFunc) := by kernel_rfl
theorem tk58 : tk Tryz.prog 58 = .ptr 89 := by kernel_rfl
theorem sz58 : sz Tryz.prog 58 = some 1 := by kernel_rfl
theorem byt58 : byt Tryz.prog 58 = some 8 := by kernel_rfl
theorem zero58 : zeroT Tryz.prog 58 = some (.nilPtr) := by kernel_rfl
theorem tk59 : tk Tryz.prog 59 = .func := by kernel_rfl
theorem sz59 : sz Tryz.prog 59 = some 1 := by kernel_rfl
theorem byt59 : byt Tryz.prog 59 = some 8 := by kernel_rfl
theorem zero59 : zeroT Tryz.prog 59 = some (.nilFunc) := by kernel_rfl
theorem tk60 : tk Tryz.prog 60 = .func := by kernel_rfl
theorem sz60 : sz Tryz.prog 60 = some 1 := by kernel_rfl
theorem byt60 : byt Tryz.prog 60 = some 8 := by kernel_rfl
theorem zero60 : zeroT Tryz.prog 60 = some (.nilFunc) := by kernel_rfl
theorem tk61 : tk Tryz.prog 61 = .int .u64 := by kernel_rfl
theorem sz61 : sz Tryz.prog 61 = some 1 := by kernel_rfl
theorem byt61 : byt Tryz.prog 61 = some 8 := by kernel_rfl
theorem zero61 : zeroT Tryz.prog 61 = some (.int .u64 0) := by kernel_rfl
theorem tk62 : tk Tryz.prog 62 = .func := by kernel_rfl
theorem sz62 : sz Tryz.prog 62 = some 1 := by kernel_rfl
theorem byt62 : byt Tryz.prog 62 = some 8 := by kernel_rfl
theorem zero62 : zeroT Tryz.prog 62 = some (.nilFunc) := by kernel_rfl
theorem tk64 : tk Tryz.prog 64 = .func := by kernel_rfl
theorem sz64 : sz Tryz.prog 64 = some 1 := by kernel_rfl
theorem byt64 : byt Tryz.prog 64 = some 8 := by kernel_rfl
theorem zero64 : zeroT Tryz.prog 64 = some (.nilFunc) := by kernel_rfl
theorem tk65 : tk Tryz.prog 65 = .func := by kernel_rfl
theorem sz65 : sz Tryz.prog 65 = some 1 := by kernel_rfl
theorem byt65 : byt Tryz.prog 65 = some 8 := by kernel_rfl
theorem zero65 : zeroT Tryz.prog 65 = some (.nilFunc) := by kernel_rfl
theorem tk66 : tk Tryz.prog 66 = .func := by kernel_rfl
theorem sz66 : sz Tryz.prog 66 = some 1 := by kernel_rfl
theorem byt66 : byt Tryz.prog 66 = some 8 := by kernel_rfl
theorem zero66 : zeroT Tryz.prog 66 = some (.nilFunc) := by kernel_rfl
theorem tk67 : tk Tryz.prog 67 = .func := by kernel_rfl
theorem sz67 : sz Tryz.prog 67 = some 1 := by kernel_rfl
theorem byt67 : byt Tryz.prog 67 = some 8 := by kernel_rfl
theorem zero67 : zeroT Tryz.prog 67 = some (.nilFunc) := by kernel_rfl
theorem tk68 : tk Tryz.prog 68 = .func := by kernel_rfl
theorem sz68 : sz Tryz.prog 68 = some 1 := by kernel_rfl
theorem byt68 : byt Tryz.prog 68 = some 8 := by kernel_rfl
theorem zero68 : zeroT Tryz.prog 68 = some (.nilFunc) := by kernel_rfl
theorem tk69 : tk Tryz.prog 69 = .func := by kernel_rfl
theorem sz69 : sz Tryz.prog 69 = some 1 := by kernel_rfl
theorem byt69 : byt Tryz.prog 69 = some 8 := by kernel_rfl
theorem zero69 : zeroT Tryz.prog 69 = some (.nilFunc) := by kernel_rfl
theorem tk70 : tk Tryz.prog 70 = .func := by kernel_rfl
theorem sz70 : sz Tryz.prog 70 = some 1 := by kernel_rfl
theorem byt70 : byt Tryz.prog 70 = some 8 := by kernel_rfl
theorem zero70 : zeroT Tryz.prog 70 = some (.nilFunc) := by kernel_rfl
theorem tk71 : tk Tryz.prog 71 = .func := by kernel_rfl
theorem sz71 : sz Tryz.prog 71 = some 1 := by kernel_rfl
theorem byt71 : byt Tryz.prog 71 = some 8 := by kernel_rfl
theorem zero71 : zeroT Tryz.prog 71 = some (.nilFunc) := by kernel_rfl
theorem tk72 : tk Tryz.prog 72 = .int .u64 := by kernel_rfl
theorem sz72 : sz Tryz.prog 72 = some 1 := by kernel_rfl
theorem byt72 : byt Tryz.prog 72 = some 8 := by kernel_rfl
theorem zero72 : zeroT Tryz.prog 72 = some (.int .u64 0) := by kernel_rfl
theorem tk73 : tk Tryz.prog 73 = .slice 9 := by kernel_rfl
theorem sz73 : sz Tryz.prog 73 = some 1 := by kernel_rfl
theorem byt73 : byt Tryz.prog 73 = some 24 := by kernel_rfl
theorem zero73 : zeroT Tryz.prog 73 = some (.nilSlice) := by kernel_rfl
theorem tk74 : tk Tryz.prog 74 = .struct [] := by kernel_rfl
theorem sz74 : sz Tryz.prog 74 = some 0 := by kernel_rfl
theorem byt74 : byt Tryz.prog 74 = some 0 := by kernel_rfl
theorem zero74 : zeroT Tryz.prog 74 = some (.agg []) := by kernel_rfl
theorem tk75 : tk Tryz.prog 75 = .struct [] := by kernel_rfl
theorem sz75 : sz Tryz.prog 75 = some 0 := by kernel_rfl
theorem byt75 : byt Tryz.prog 75 = some 0 := by kernel_rfl
theorem zero75 : zeroT Tryz.prog 75 = some (.agg []) := by kernel_rfl
theorem tk76 : tk Tryz.prog 76 = .struct [] := by kernel_rfl
theorem sz76 : sz Tryz.prog 76 = some 0 := by kernel_rfl
theorem byt76 : byt Tryz.prog 76 = some 0 := by kernel_rfl
theorem zero76 : zeroT Tryz.prog 76 = some (.agg []) := by kernel_rfl
theorem tk77 : tk Tryz.prog 77 = .int .u32 := by kernel_rfl
theorem sz77 : sz Tryz.prog 77 = some 1 := by kernel_rfl
theorem byt77 : byt Tryz.prog 77 = some 4 := by kernel_rfl
theorem zero77 : zeroT Tryz.prog 77 = some (.int .u32 0) := by kernel_rfl
theorem tk78 : tk Tryz.prog 78 = .struct [(0, 76), (0, 77)] := by kernel_rfl
theorem sz78 : sz Tryz.prog 78 = some 1 := by kernel_rfl
theorem byt78 : byt Tryz.prog 78 = some 4 := by kernel_rfl
theorem zero78 : zeroT Tryz.prog 78 = some (.agg [.int .u32 0]) := by kernel_rfl
theorem tk79 : tk Tryz.prog 79 = .struct [(0, 76), (0, 77)] := by kernel_rfl
theorem sz79 : sz Tryz.prog 79 = some 1 := by kernel_rfl
theorem byt79 : byt Tryz.prog 79 = some 4 := by kernel_rfl
theorem zero79 : zeroT Tryz.prog 79 = some (.agg [.int .u32 0]) := by kernel_rfl
theorem tk80 : tk Tryz.prog 80 = .struct [(0, 21), (1, 77)] := by kernel_rfl
theorem sz80 : sz Tryz.prog 80 = some 2 := by kernel_rfl
theorem byt80 : byt Tryz.prog 80 = some 8 := by kernel_rfl
theorem zero80 : zeroT Tryz.prog 80 = some (.agg [.int .i32 0, .int .u32 0]) := by kernel_rfl
theorem tk81 : tk Tryz.prog 81 = .struct [(0, 21), (1, 77)] := by kernel_rfl
theorem sz81 : sz Tryz.prog 81 = some 2 := by kernel_rfl
theorem byt81 : byt Tryz.prog 81 = some 8 := by kernel_rfl
theorem zero81 : zeroT Tryz.prog 81 = some (.agg [.int .i32 0, .int .u32 0]) := by kernel_rfl
theorem tk82 : tk Tryz.prog 82 = .struct [(0, 75), (0, 81)] := by kernel_rfl
theorem sz82 : sz Tryz.prog 82 = some 2 := by kernel_rfl
theorem byt82 : byt Tryz.prog 82 = some 8 := by kernel_rfl
theorem zero82 : zeroT Tryz.prog 82 = some (.agg [.int .i32 0, .int .u32 0]) := by kernel_rfl
theorem tk83 : tk Tryz.prog 83 = .struct [(0, 75), (0, 81)] := by kernel_rfl
theorem sz83 : sz Tryz.prog 83 = some 2 := by kernel_rfl
theorem byt83 : byt Tryz.prog 83 = some 8 := by kernel_rfl
theorem zero83 : zeroT Tryz.prog 83 = some (.agg [.int .i32 0, .int .u32 0]) := by kernel_rfl
theorem tk84 : tk Tryz.prog 84 = .struct [(0, 75), (0, 79), (1, 83)] := by kernel_rfl
theorem sz84 : sz Tryz.prog 84 = some 3 := by kernel_rfl
theorem byt84 : byt Tryz.prog 84 = some 12 := by kernel_rfl
theorem zero84 : zeroT Tryz.prog 84 = some (.agg [.int .u32 0, .int .i32 0, .int .u32 0]) := by kernel_rfl
theorem tk85 : tk Tryz.prog 85 = .struct [(0, 75), (0, 79), (1, 83)] := by kernel_rfl
theorem sz85 : sz Tryz.prog 85 = some 3 := by kernel_rfl
theorem byt85 : byt Tryz.prog 85 = some 12 := by kernel_rfl
theorem zero85 : zeroT Tryz.prog 85 = some (.agg [.int .u32 0, .int .i32 0, .int .u32 0]) := by kernel_rfl
theorem tk86 : tk Tryz.prog 86 = .iface := by kernel_rfl
theorem sz86 : sz Tryz.prog 86 = some 1 := by kernel_rfl
theorem byt86 : byt Tryz.prog 86 = some 16 := by kernel_rfl
theorem zero86 : zeroT Tryz.prog 86 = some (.nilIface) := by kernel_rfl
theorem tk87 : tk Tryz.prog 87 = .iface := by kernel_rfl
theorem sz87 : sz Tryz.prog 87 = some 1 := by kernel_rfl
theorem byt87 : byt Tryz.prog 87 = some 16 := by kernel_rfl
theorem zero87 : zeroT Tryz.prog 87 = some (.nilIface) := by kernel_rfl
theorem tk88 : tk Tryz.prog 88 = .struct [(0, 85), (3, 87), (4, 73)] := by kernel_rfl
theorem sz88 : sz Tryz.prog 88 = some 5 := by kernel_rfl
theorem byt88 : byt Tryz.prog 88 = some 56 := by kernel_rfl
theorem zero88 : zeroT Tryz.prog 88 = some (.agg [.int .u32 0, .int .i32 0, .int .u32 0, .nilIface, .nilSlice]) := by kernel_rfl
theorem tk89 : tk Tryz.prog 89 = .struct [(0, 85), (3, 87), (4, 73)] := by kernel_rfl
theorem sz89 : sz Tryz.prog 89 = some 5 := by kernel_rfl
theorem byt89 : byt Tryz.prog 89 = some 56 := by kernel_rfl
theorem zero89 : zeroT Tryz.prog 89 = some (.agg [.int .u32 0, .int .i32 0, .int .u32 0, .nilIface, .nilSlice]) := by kernel_rfl
theorem tk90 : tk Tryz.prog 90 = .func := by kernel_rfl
theorem sz90 : sz Tryz.prog 90 = some 1 := by kernel_rfl
theorem byt90 : byt Tryz.prog 90 = some 8 := by kernel_rfl
theorem zero90 : zeroT Tryz.prog 90 = some (.nilFunc) := by kernel_rfl
theorem tk91 : tk Tryz.prog 91 = .func := by kernel_rfl
theorem sz91 : sz Tryz.prog 91 = some 1 := by kernel_rfl
theorem byt91 : byt Tryz.prog 91 = some 8 := by kernel_rfl
theorem zero91 : zeroT Tryz.prog 91 = some (.nilFunc) := by kernel_rfl
theorem tk92 : tk Tryz.prog 92 = .func := by kernel_rfl
theorem sz92 : sz Tryz.prog 92 = some 1 := by kernel_rfl
theorem byt92 : byt Tryz.prog 92 = some 8 := by kernel_rfl
theorem zero92 : zeroT Tryz.prog 92 = some (.nilFunc) := by kernel_rfl
theorem tk93 : tk Tryz.prog 93 = .func := by kernel_rfl
theorem sz93 : sz Tryz.prog 93 = some 1 := by kernel_rfl
theorem byt93 : byt Tryz.prog 93 = some 8 := by kernel_rfl
theorem zero93 : zeroT Tryz.prog 93 = some (.nilFunc) := by kernel_rfl
theorem tk95 : tk Tryz.prog 95 = .func := by kernel_rfl
theorem sz95 : sz Tryz.prog 95 = some 1 := by kernel_rfl
theorem byt95 : byt Tryz.prog 95 = some 8 := by kernel_rfl
theorem zero95 : zeroT Tryz.prog 95 = some (.nilFunc) := by kernel_rfl
theorem tk96 : tk Tryz.prog 96 = .int .i64 := by kernel_rfl
theorem sz96 : sz Tryz.prog 96 = some 1 := by kernel_rfl
theorem byt96 : byt Tryz.prog 96 = some 8 := by kernel_rfl
theorem zero96 : zeroT Tryz.prog 96 = some (.int .i64 0) := by kernel_rfl
theorem tk98 : tk Tryz.prog 98 = .func := by kernel_rfl
theorem sz98 : sz Tryz.prog 98 = some 1 := by kernel_rfl
theorem byt98 : byt Tryz.prog 98 = some 8 := by kernel_rfl
theorem zero98 : zeroT Tryz.prog 98 = some (.nilFunc) := by kernel_rfl
theorem tk99 : tk Tryz.prog 99 = .ptr 114 := by kernel_rfl
theorem sz99 : sz Tryz.prog 99 = some 1 := by kernel_rfl
theorem byt99 : byt Tryz.prog 99 = some 8 := by kernel_rfl
theorem zero99 : zeroT Tryz.prog 99 = some (.nilPtr) := by kernel_rfl
theorem tk100 : tk Tryz.prog 100 = .func := by kernel_rfl
theorem sz100 : sz Tryz.prog 100 = some 1 := by kernel_rfl
theorem byt100 : byt Tryz.prog 100 = some 8 := by kernel_rfl
theorem zero100 : zeroT Tryz.prog 100 = some (.nilFunc) := by kernel_rfl
theorem tk101 : tk Tryz.prog 101 = .func := by kernel_rfl
theorem sz101 : sz Tryz.prog 101 = some 1 := by kernel_rfl
theorem byt101 : byt Tryz.prog 101 = some 8 := by kernel_rfl
theorem zero101 : zeroT Tryz.prog 101 = some (.nilFunc) := by kernel_rfl
theorem tk102 : tk Tryz.prog 102 = .func := by kernel_rfl
theorem sz102 : sz Tryz.prog 102 = some 1 := by kernel_rfl
theorem byt102 : byt Tryz.prog 102 = some 8 := by kernel_rfl
theorem zero102 : zeroT Tryz.prog 102 = some (.nilFunc) := by kernel_rfl
theorem tk103 : tk Tryz.prog 103 = .array 24 5 := by kernel_rfl
theorem sz103 : sz Tryz.prog 103 = some 24 := by kernel_rfl
theorem byt103 : byt Tryz.prog 103 = some 24 := by kernel_rfl
theorem zero103 : zeroT Tryz.prog 103 = some (.agg [.int .u8 0, .int .u8 0, .int .u8 0, .int .u8 0, .int .u8 0, .int .u8 0, .int .u8 0, .int .u8 0, .int .u8 0, .int .u8 0, .int .u8 0, .int .u8 0, .int .u8 0, .int .u8 0, .int .u8 0, .int .u8 0, .int .u8 0, .int .u8 0, .int .u8 0, .int .u8 0, .int .u8 0, .int .u8 0, .int .u8 0, .int .u8 0]) := by kernel_rfl
theorem tk104 : tk Tryz.prog 104 = .func := by kernel_rfl
theorem sz104 : sz Tryz.prog 104 = some 1 := by kernel_rfl
theorem byt104 : byt Tryz.prog 104 = some 8 := by kernel_rfl
theorem zero104 : zeroT Tryz.prog 104 = some (.nilFunc) := by kernel_rfl
theorem tk105 : tk Tryz.prog 105 = .func := by kernel_rfl
theorem sz105 : sz Tryz.prog 105 = some 1 := by kernel_rfl
theorem byt105 : byt Tryz.prog 105 = some 8 := by kernel_rfl
theorem zero105 : zeroT Tryz.prog 105 = some (.nilFunc) := by kernel_rfl
theorem tk107 : tk Tryz.prog 107 = .func := by kernel_rfl
theorem sz107 : sz Tryz.prog 107 = some 1 := by kernel_rfl
theorem byt107 : byt Tryz.prog 107 = some 8 := by kernel_rfl
theorem zero107 : zeroT Tryz.prog 107 = some (.nilFunc) := by kernel_rfl
theorem tk108 : tk Tryz.prog 108 = .ptr 85 := by kernel_rfl
theorem sz108 : sz Tryz.prog 108 = some 1 := by kernel_rfl
theorem byt108 : byt Tryz.prog 108 = some 8 := by kernel_rfl
theorem zero108 : zeroT Tryz.prog 108 = some (.nilPtr) := by kernel_rfl
theorem tk109 : tk Tryz.prog 109 = .func := by kernel_rfl
theorem sz109 : sz Tryz.prog 109 = some 1 := by kernel_rfl
theorem byt109 : byt Tryz.prog 109 = some 8 := by kernel_rfl
theorem zero109 : zeroT Tryz.prog 109 = some (.nilFunc) := by kernel_rfl
theorem tk110 : tk Tryz.prog 110 = .func := by kernel_rfl
theorem sz110 : sz Tryz.prog 110 = some 1 := by kernel_rfl
theorem byt110 : byt Tryz.prog 110 = some 8 := by kernel_rfl
theorem zero110 : zeroT Tryz.prog 110 = some (.nilFunc) := by kernel_rfl
theorem tk111 : tk Tryz.prog 111 = .func := by kernel_rfl
theorem sz111 : sz Tryz.prog 111 = some 1 := by kernel_rfl
theorem byt111 : byt Tryz.prog 111 = some 8 := by kernel_rfl
theorem zero111 : zeroT Tryz.prog 111 = some (.nilFunc) := by kernel_rfl
theorem tk112 : tk Tryz.prog 112 = .func := by kernel_rfl
theorem sz112 : sz Tryz.prog 112 = some 1 := by kernel_rfl
theorem byt112 : byt Tryz.prog 112 = some 8 := by kernel_rfl
theorem zero112 : zeroT Tryz.prog 112 = some (.nilFunc) := by kernel_rfl
theorem tk113 : tk Tryz.prog 113 = .struct [(0, 9), (1, 9), (2, 50)] := by kernel_rfl
theorem sz113 : sz Tryz.prog 113 = some 3 := by kernel_rfl
theorem byt113 : byt Tryz.prog 113 = some 48 := by kernel_rfl
theorem zero113 : zeroT Tryz.prog 113 = some (.agg [.str ⟨#[]⟩, .str ⟨#[]⟩, .nilIface]) := by kernel_rfl
theorem tk114 : tk Tryz.prog 114 = .struct [(0, 9), (1, 9), (2, 50)] := by kernel_rfl
theorem sz114 : sz Tryz.prog 114 = some 3 := by kernel_rfl
theorem byt114 : byt Tryz.prog 114 = some 48 := by kernel_rfl
theorem zero114 : zeroT Tryz.prog 114 = some (.agg [.str ⟨#[]⟩, .str ⟨#[]⟩, .nilIface]) := by kernel_rfl
theorem tk115 : tk Tryz.prog 115 = .func := by kernel_rfl
theorem sz115 : sz Tryz.prog 115 = some 1 := by kernel_rfl
theorem byt115 : byt Tryz.prog 115 = some 8 := by kernel_rfl
theorem zero115 : zeroT Tryz.prog 115 = some (.nilFunc) := by kernel_rfl
theorem tk116 : tk Tryz.prog 116 = .func := by kernel_rfl
theorem sz116 : sz Tryz.prog 116 = some 1 := by kernel_rfl
theorem byt116 : byt Tryz.prog 116 = some 8 := by kernel_rfl
theorem zero116 : zeroT Tryz.prog 116 = some (.nilFunc) := by kernel_rfl
theorem tk117 : tk Tryz.prog 117 = .func := by kernel_rfl
theorem sz117 : sz Tryz.prog 117 = some 1 := by kernel_rfl
theorem byt117 : byt Tryz.prog 117 = some 8 := by kernel_rfl
theorem zero117 : zeroT Tryz.prog 117 = some (.nilFunc) := by kernel_rfl
theorem tk118 : tk Tryz.prog 118 = .array 20 72 := by kernel_rfl
theorem sz118 : sz Tryz.prog 118 = some 20 := by kernel_rfl
theorem byt118 : byt Tryz.prog 118 = some 160 := by kernel_rfl
theorem zero118 : zeroT Tryz.prog 118 = some (.agg [.int .u64 0, .int .u64 0, .int .u64 0, .int .u64 0, .int .u64 0, .int .u64 0, .int .u64 0, .int .u64 0, .int .u64 0, .int .u64 0, .int .u64 0, .int .u64 0, .int .u64 0, .int .u64 0, .int .u64 0, .int .u64 0, .int .u64 0, .int .u64 0, .int .u64 0, .int .u64 0]) := by kernel_rfl
theorem tk119 : tk Tryz.prog 119 = .array 65 5 := by kernel_rfl
theorem sz119 : sz Tryz.prog 119 = some 65 := by kernel_rfl
theorem byt119 : byt Tryz.prog 119 = some 65 := by kernel_rfl
theorem zero119 : zeroT Tryz.prog 119 = some (.agg [.int .u8 0, .int .u8 0, .int .u8 0, .int .u8 0, .int .u8 0, .int .u8 0, .int .u8 0, .int .u8 0, .int .u8 0, .int .u8 0, .int .u8 0, .int .u8 0, .int .u8 0, .int .u8 0, .int .u8 0, .int .u8 0, .int .u8 0, .int .u8 0, .int .u8 0, .int .u8 0, .int .u8 0, .int .u8 0, .int .u8 0, .int .u8 0, .int .u8 0, .int .u8 0, .int .u8 0, .int .u8 0, .int .u8 0, .int .u8 0, .int .u8 0, .int .u8 0, .int .u8 0, .int .u8 0, .int .u8 0, .int .u8 0, .int .u8 0, .int .u8 0, .int .u8 0, .int .u8 0, .int .u8 0, .int .u8 0, .int .u8 0, .int .u8 0, .int .u8 0, .int .u8 0, .int .u8 0, .int .u8 0, .int .u8 0, .int .u8 0, .int .u8 0, .int .u8 0, .int .u8 0, .int .u8 0, .int .u8 0, .int .u8 0, .int .u8 0, .int .u8 0, .int .u8 0, .int .u8 0, .int .u8 0, .int .u8 0, .int .u8 0, .int .u8 0, .int .u8 0]) := by kernel_rfl
theorem tk120 : tk Tryz.prog 120 = .func := by kernel_rfl
theorem sz120 : sz Tryz.prog 120 = some 1 := by kernel_rfl
theorem byt120 : byt Tryz.prog 120 = some 8 := by kernel_rfl
theorem zero120 : zeroT Tryz.prog 120 = some (.nilFunc) := by kernel_rfl
theorem tk121 : tk Tryz.prog 121 = .func := by kernel_rfl
theorem sz121 : sz Tryz.prog 121 = some 1 := by kernel_rfl
theorem byt121 : byt Tryz.prog 121 = some 8 := by kernel_rfl
theorem zero121 : zeroT Tryz.prog 121 = some (.nilFunc) := by kernel_rfl
theorem tk122 : tk Tryz.prog 122 = .ptr 79 := by kernel_rfl
theorem sz122 : sz Tryz.prog 122 = some 1 := by kernel_rfl
theorem byt122 : byt Tryz.prog 122 = some 8 := by kernel_rfl
theorem zero122 : zeroT Tryz.prog 122 = some (.nilPtr) := by kernel_rfl
theorem tk123 : tk Tryz.prog 123 = .func := by kernel_rfl
theorem sz123 : sz Tryz.prog 123 = some 1 := by kernel_rfl
theorem byt123 : byt Tryz.prog 123 = some 8 := by kernel_rfl
theorem zero123 : zeroT Tryz.prog 123 = some (.nilFunc) := by kernel_rfl
theorem tk124 : tk Tryz.prog 124 = .ptr 77 := by kernel_rfl
theorem sz124 : sz Tryz.prog 124 = some 1 := by kernel_rfl
theorem byt124 : byt Tryz.prog 124 = some 8 := by kernel_rfl
theorem zero124 : zeroT Tryz.prog 124 = some (.nilPtr) := by kernel_rfl
theorem tk125 : tk Tryz.prog 125 = .func := by kernel_rfl
theorem sz125 : sz Tryz.prog 125 = some 1 := by kernel_rfl
theorem byt125 : byt Tryz.prog 125 = some 8 := by kernel_rfl
theorem zero125 : zeroT Tryz.prog 125 = some (.nilFunc) := by kernel_rfl
theorem tk126 : tk Tryz.prog 126 = .ptr 151 := by kernel_rfl
theorem sz126 : sz Tryz.prog 126 = some 1 := by kernel_rfl
theorem byt126 : byt Tryz.prog 126 = some 8 := by kernel_rfl
theorem zero126 : zeroT Tryz.prog 126 = some (.nilPtr) := by kernel_rfl
theorem tk127 : tk Tryz.prog 127 = .func := by kernel_rfl
theorem sz127 : sz Tryz.prog 127 = some 1 := by kernel_rfl
theorem byt127 : byt Tryz.prog 127 = some 8 := by kernel_rfl
theorem zero127 : zeroT Tryz.prog 127 = some (.nilFunc) := by kernel_rfl
theorem tk128 : tk Tryz.prog 128 = .ptr 157 := by kernel_rfl
theorem sz128 : sz Tryz.prog 128 = some 1 := by kernel_rfl
theorem byt128 : byt Tryz.prog 128 = some 8 := by kernel_rfl
theorem zero128 : zeroT Tryz.prog 128 = some (.nilPtr) := by kernel_rfl
theorem tk129 : tk Tryz.prog 129 = .func := by kernel_rfl
theorem sz129 : sz Tryz.prog 129 = some 1 := by kernel_rfl
theorem byt129 : byt Tryz.prog 129 = some 8 := by kernel_rfl
theorem zero129 : zeroT Tryz.prog 129 = some (.nilFunc) := by kernel_rfl
theorem tk130 : tk Tryz.prog 130 = .array 256 5 := by kernel_rfl
theorem sz130 : sz Tryz.prog 130 = some 256 := by kernel_rfl
theorem byt130 : byt Tryz.prog 130 = some 256 := by kernel_rfl
theorem zero130 : zeroT Tryz.prog 130 = some (.agg [.int .u8 0, .int .u8 0, .int .u8 0, .int .u8 0, .int .u8 0, .int .u8 0, .int .u8 0, .int .u8 0, .int .u8 0, .int .u8 0, .int .u8 0, .int .u8 0, .int .u8 0, .int .u8 0, .int .u8 0, .int .u8 0, .int .u8 0, .int .u8 0, .int .u8 0, .int .u8 0, .int .u8 0, .int .u8 0, .int .u8 0, .int .u8 0, .int .u8 0, .int .u8 0, .int .u8 0, .int .u8 0, .int .u8 0, .int .u8 0, .int .u8 0, .int .u8 0, .int .u8 0, .int .u8 0, .int .u8 0, .int .u8 0, .int .u8 0, .int .u8 0, .int .u8 0, .int .u8 0, .int .u8 0, .int .u8 0, .int .u8 0, .int .u8 0, .int .u8 0, .int .u8 0, .int .u8 0, .int .u8 0, .int .u8 0, .int .u8 0, .int .u8 0, .int .u8 0, .int .u8 0, .int .u8 0, .int .u8 0, .int .u8 0, .int .u8 0, .int .u8 0, .int .u8 0, .int .u8 0, .int .u8 0, .int .u8 0, .int .u8 0, .int .u8 0, .int .u8 0, .int .u8 0, .int .u8 0, .int .u8 0, .int .u8 0, .int .u8 0, .int .u8 0, .int .u8 0, .int .u8 0, .int .u8 0, .int .u8 0, .int .u8 0, .int .u8 0, .int .u8 0, .int .u8 0, .int .u8 0, .int .u8 0, .int .u8 0, .int .u8 0, .int .u8 0, .int .u8 0, .int .u8 0, .int .u8 0, .int .u8 0, .int .u8 0, .int .u8 0, .int .u8 0, .int .u8 0, .int .u8 0, .int .u8 0, .int .u8 0, .int .u8 0, .int .u8 0, .int .u8 0, .int .u8 0, .int .u8 0, .int .u8 0, .int .u8 0, .int .u8 0, .int .u8 0, .int .u8 0, .int .u8 0, .int .u8 0, .int .u8 0, .int .u8 0, .int .u8 0, .int .u8 0, .int .u8 0, .int .u8 0, .int .u8 0, .int .u8 0, .int .u8 0, .int .u8 0, .int .u8 0, .int .u8 0, .int .u8 0, .int .u8 0, .int .u8 0, .int .u8 0, .int .u8 0, .int .u8 0, .int .u8 0, .int .u8 0, .int .u8 0, .int .u8 0, .int .u8 0, .int .u8 0, .int .u8 0, .int .u8 0, .int .u8 0, .int .u8 0, .int .u8 0, .int .u8 0, .int .u8 0, .int .u8 0, .int .u8 0, .int .u8 0, .int .u8 0, .int .u8 0, .int .u8 0, .int .u8 0, .int .u8 0, .int .u8 0, .int .u8 0, .int .u8 0, .int .u8 0, .int .u8 0, .int .u8 0, .int .u8 0, .int .u8 0, .int .u8 0, .int .u8 0, .int .u8 0, .int .u8 0, .int .u8 0, .int .u8 0, .int .u8 0, .int .u8 0, .int .u8 0, .int .u8 0, .int .u8 0, .int .u8 0, .int .u8 0, .int .u8 0, .int .u8 0, .int .u8 0, .int .u8 0, .int .u8 0, .int .u8 0, .int .u8 0, .int .u8 0, .int .u8 0, .int .u8 0, .int .u8 0, .int .u8 0, .int .u8 0, .int .u8 0, .int .u8 0, .int .u8 0, .int .u8 0, .int .u8 0, .int .u8 0, .int .u8 0, .int .u8 0, .int .u8 0, .int .u8 0, .int .u8 0, .int .u8 0, .int .u8 0, .int .u8 0, .int .u8 0, .int .u8 0, .int .u8 0, .int .u8 0, .int .u8 0, .int .u8 0, .int .u8 0, .int .u8 0, .int .u8 0, .int .u8 0, .int .u8 0, .int .u8 0, .int .u8 0, .int .u8 0, .int .u8 0, .int .u8 0, .int .u8 0, .int .u8 0, .int .u8 0, .int .u8 0, .int .u8 0, .int .u8 0, .int .u8 0, .int .u8 0, .int .u8 0, .int .u8 0, .int .u8 0, .int .u8 0, .int .u8 0, .int .u8 0, .int .u8 0, .int .u8 0, .int .u8 0, .int .u8 0, .int .u8 0, .int .u8 0, .int .u8 0, .int .u8 0, .int .u8 0, .int .u8 0, .int .u8 0, .int .u8 0, .int .u8 0, .int .u8 0, .int .u8 0, .int .u8 0, .int .u8 0, .int .u8 0, .int .u8 0, .int .u8 0, .int .u8 0, .int .u8 0, .int .u8 0, .int .u8 0, .int .u8 0, .int .u8 0, .int .u8 0, .int .u8 0, .int .u8 0, .int .u8 0, .int .u8 0, .int .u8 0]) := by kernel_rfl
theorem tk131 : tk Tryz.prog 131 = .array 256 5 := by kernel_rfl
theorem sz131 : sz Tryz.prog 131 = some 256 := by kernel_rfl
theorem byt131 : byt Tryz.prog 131 = some 256 := by kernel_rfl
theorem zero131 : zeroT Tryz.prog 131 = some (.agg [.int .u8 0, .int .u8 0, .int .u8 0, .int .u8 0, .int .u8 0, .int .u8 0, .int .u8 0, .int .u8 0, .int .u8 0, .int .u8 0, .int .u8 0, .int .u8 0, .int .u8 0, .int .u8 0, .int .u8 0, .int .u8 0, .int .u8 0, .int .u8 0, .int .u8 0, .int .u8 0, .int .u8 0, .int .u8 0, .int .u8 0, .int .u8 0, .int .u8 0, .int .u8 0, .int .u8 0, .int .u8 0, .int .u8 0, .int .u8 0, .int .u8 0, .int .u8 0, .int .u8 0, .int .u8 0, .int .u8 0, .int .u8 0, .int .u8 0, .int .u8 0, .int .u8 0, .int .u8 0, .int .u8 0, .int .u8 0, .int .u8 0, .int .u8 0, .int .u8 0, .int .u8 0, .int .u8 0, .int .u8 0, .int .u8 0, .int .u8 0, .int .u8 0, .int .u8 0, .int .u8 0, .int .u8 0, .int .u8 0, .int .u8 0, .int .u8 0, .int .u8 0, .int .u8 0, .int .u8 0, .int .u8 0, .int .u8 0, .int .u8 0, .int .u8 0, .int .u8 0, .int .u8 0, .int .u8 0, .int .u8 0, .int .u8 0, .int .u8 0, .int .u8 0, .int .u8 0, .int .u8 0, .int .u8 0, .int .u8 0, .int .u8 0, .int .u8 0, .int .u8 0, .int .u8 0, .int .u8 0, .int .u8 0, .int .u8 0, .int .u8 0, .int .u8 0, .int .u8 0, .int .u8 0, .int .u8 0, .int .u8 0, .int .u8 0, .int .u8 0, .int .u8 0, .int .u8 0, .int .u8 0, .int .u8 0, .int .u8 0, .int .u8 0, .int .u8 0, .int .u8 0, .int .u8 0, .int .u8 0, .int .u8 0, .int .u8 0, .int .u8 0, .int .u8 0, .int .u8 0, .int .u8 0, .int .u8 0, .int .u8 0, .int .u8 0, .int .u8 0, .int .u8 0, .int .u8 0, .int .u8 0, .int .u8 0, .int .u8 0, .int .u8 0, .int .u8 0, .int .u8 0, .int .u8 0, .int .u8 0, .int .u8 0, .int .u8 0, .int .u8 0, .int .u8 0, .int .u8 0, .int .u8 0, .int .u8 0, .int .u8 0, .int .u8 0, .int .u8 0, .int .u8 0, .int .u8 0, .int .u8 0, .int .u8 0, .int .u8 0, .int .u8 0, .int .u8 0, .int .u8 0, .int .u8 0, .int .u8 0, .int .u8 0, .int .u8 0, .int .u8 0, .int .u8 0, .int .u8 0, .int .u8 0, .int .u8 0, .int .u8 0, .int .u8 0, .int .u8 0, .int .u8 0, .int .u8 0, .int .u8 0, .int .u8 0, .int .u8 0, .int .u8 0, .int .u8 0, .int .u8 0, .int .u8 0, .int .u8 0, .int .u8 0, .int .u8 0, .int .u8 0, .int .u8 0, .int .u8 0, .int .u8 0, .int .u8 0, .int .u8 0, .int .u8 0, .int .u8 0, .int .u8 0, .int .u8 0, .int .u8 0, .int .u8 0, .int .u8 0, .int .u8 0, .int .u8 0, .int .u8 0, .int .u8 0, .int .u8 0, .int .u8 0, .int .u8 0, .int .u8 0, .int .u8 0, .int .u8 0, .int .u8 0, .int .u8 0, .int .u8 0, .int .u8 0, .int .u8 0, .int .u8 0, .int .u8 0, .int .u8 0, .int .u8 0, .int .u8 0, .int .u8 0, .int .u8 0, .int .u8 0, .int .u8 0, .int .u8 0, .int .u8 0, .int .u8 0, .int .u8 0, .int .u8 0, .int .u8 0, .int .u8 0, .int .u8 0, .int .u8 0, .int .u8 0, .int .u8 0, .int .u8 0, .int .u8 0, .int .u8 0, .int .u8 0, .int .u8 0, .int .u8 0, .int .u8 0, .int .u8 0, .int .u8 0, .int .u8 0, .int .u8 0, .int .u8 0, .int .u8 0, .int .u8 0, .int .u8 0, .int .u8 0, .int .u8 0, .int .u8 0, .int .u8 0, .int .u8 0, .int .u8 0, .int .u8 0, .int .u8 0, .int .u8 0, .int .u8 0, .int .u8 0, .int .u8 0, .int .u8 0, .int .u8 0, .int .u8 0, .int .u8 0, .int .u8 0, .int .u8 0, .int .u8 0, .int .u8 0, .int .u8 0, .int .u8 0, .int .u8 0, .int .u8 0, .int .u8 0, .int .u8 0, .int .u8 0, .int .u8 0, .int .u8 0, .int .u8 0, .int .u8 0]) := by kernel_rfl
theorem tk132 : tk Tryz.prog 132 = .ptr 131 := by kernel_rfl
theorem sz132 : sz Tryz.prog 132 = some 1 := by kernel_rfl
theorem byt132 : byt Tryz.prog 132 = some 8 := by kernel_rfl
theorem zero132 : zeroT Tryz.prog 132 = some (.nilPtr) := by kernel_rfl
theorem tk133 : tk Tryz.prog 133 = .array 256 56 := by kernel_rfl
theorem sz133 : sz Tryz.prog 133 = some 256 := by kernel_rfl
theorem byt133 : byt Tryz.prog 133 = some 6144 := by kernel_rfl
theorem zero133 : zeroT Tryz.prog 133 = some (.agg [.nilSlice, .nilSlice, .nilSlice, .nilSlice, .nilSlice, .nilSlice, .nilSlice, .nilSlice, .nilSlice, .nilSlice, .nilSlice, .nilSlice, .nilSlice, .nilSlice, .nilSlice, .nilSlice, .nilSlice, .nilSlice, .nilSlice, .nilSlice, .nilSlice, .nilSlice, .nilSlice, .nilSlice, .nilSlice, .nilSlice, .nilSlice, .nilSlice, .nilSlice, .nilSlice, .nilSlice, .nilSlice, .nilSlice, .nilSlice, .nilSlice, .nilSlice, .nilSlice, .nilSlice, .nilSlice, .nilSlice, .nilSlice, .nilSlice, .nilSlice, .nilSlice, .nilSlice, .nilSlice, .nilSlice, .nilSlice, .nilSlice, .nilSlice, .nilSlice, .nilSlice, .nilSlice, .nilSlice, .nilSlice, .nilSlice, .nilSlice, .nilSlice, .nilSlice, .nilSlice, .nilSlice, .nilSlice, .nilSlice, .nilSlice, .nilSlice, .nilSlice, .nilSlice, .nilSlice, .nilSlice, .nilSlice, .nilSlice, .nilSlice, .nilSlice, .nilSlice, .nilSlice, .nilSlice, .nilSlice, .nilSlice, .nilSlice, .nilSlice, .nilSlice, .nilSlice, .nilSlice, .nilSlice, .nilSlice, .nilSlice, .nilSlice, .nilSlice, .nilSlice, .nilSlice, .nilSlice, .nilSlice, .nilSlice, .nilSlice, .nilSlice, .nilSlice, .nilSlice, .nilSlice, .nilSlice, .nilSlice, .nilSlice, .nilSlice, .nilSlice, .nilSlice, .nilSlice, .nilSlice, .nilSlice, .nilSlice, .nilSlice, .nilSlice, .nilSlice, .nilSlice, .nilSlice, .nilSlice, .nilSlice, .nilSlice, .nilSlice, .nilSlice, .nilSlice, .nilSlice, .nilSlice, .nilSlice, .nilSlice, .nilSlice, .nilSlice, .nilSlice, .nilSlice, .nilSlice, .nilSlice, .nilSlice, .nilSlice, .nilSlice, .nilSlice, .nilSlice, .nilSlice, .nilSlice, .nilSlice, .nilSlice, .nilSlice, .nilSlice, .nilSlice, .nilSlice, .nilSlice, .nilSlice, .nilSlice, .nilSlice, .nilSlice, .nilSlice, .nilSlice, .nilSlice, .nilSlice, .nilSlice, .nilSlice, .nilSlice, .nilSlice, .nilSlice, .nilSlice, .nilSlice, .nilSlice, .nilSlice, .nilSlice, .nilSlice, .nilSlice, .nilSlice, .nilSlice, .nilSlice, .nilSlice, .nilSlice, .nilSlice, .nilSlice, .nilSlice, .nilSlice, .nilSlice, .nilSlice, .nilSlice, .nilSlice, .nilSlice, .nilSlice, .nilSlice, .nilSlice, .nilSlice, .nilSlice, .nilSlice, .nilSlice, .nilSlice, .nilSlice, .nilSlice, .nilSlice, .nilSlice, .nilSlice, .nilSlice, .nilSlice, .nilSlice, .nilSlice, .nilSlice, .nilSlice, .nilSlice, .nilSlice, .nilSlice, .nilSlice, .nilSlice, .nilSlice, .nilSlice, .nilSlice, .nilSlice, .nilSlice, .nilSlice, .nilSlice, .nilSlice, .nilSlice, .nilSlice, .nilSlice, .nilSlice, .nilSlice, .nilSlice, .nilSlice, .nilSlice, .nilSlice, .nilSlice, .nilSlice, .nilSlice, .nilSlice, .nilSlice, .nilSlice, .nilSlice, .nilSlice, .nilSlice, .nilSlice, .nilSlice, .nilSlice, .nilSlice, .nilSlice, .nilSlice, .nilSlice, .nilSlice, .nilSlice, .nilSlice, .nilSlice, .nilSlice, .nilSlice, .nilSlice, .nilSlice, .nilSlice, .nilSlice, .nilSlice, .nilSlice, .nilSlice, .nilSlice, .nilSlice, .nilSlice, .nilSlice, .nilSlice, .nilSlice, .nilSlice, .nilSlice, .nilSlice]) := by kernel_rfl
theorem tk134 : tk Tryz.prog 134 = .struct [(0, 133), (256, 73)] := by kernel_rfl
theorem sz134 : sz Tryz.prog 134 = some 257 := by kernel_rfl
theorem byt134 : byt Tryz.prog 134 = some 6168 := by kernel_rfl
theorem zero134 : zeroT Tryz.prog 134 = some (.agg [.nilSlice, .nilSlice, .nilSlice, .nilSlice, .nilSlice, .nilSlice, .nilSlice, .nilSlice, .nilSlice, .nilSlice, .nilSlice, .nilSlice, .nilSlice, .nilSlice, .nilSlice, .nilSlice, .nilSlice, .nilSlice, .nilSlice, .nilSlice, .nilSlice, .nilSlice, .nilSlice, .nilSlice, .nilSlice, .nilSlice, .nilSlice, .nilSlice, .nilSlice, .nilSlice, .nilSlice, .nilSlice, .nilSlice, .nilSlice, .nilSlice, .nilSlice, .nilSlice, .nilSlice, .nilSlice, .nilSlice, .nilSlice, .nilSlice, .nilSlice, .nilSlice, .nilSlice, .nilSlice, .nilSlice, .nilSlice, .nilSlice, .nilSlice, .nilSlice, .nilSlice, .nilSlice, .nilSlice, .nilSlice, .nilSlice, .nilSlice, .nilSlice, .nilSlice, .nilSlice, .nilSlice, .nilSlice, .nilSlice, .nilSlice, .nilSlice, .nilSlice, .nilSlice, .nilSlice, .nilSlice, .nilSlice, .nilSlice, .nilSlice, .nilSlice, .nilSlice, .nilSlice, .nilSlice, .nilSlice, .nilSlice, .nilSlice, .nilSlice, .nilSlice, .nilSlice, .nilSlice, .nilSlice, .nilSlice, .nilSlice, .nilSlice, .nilSlice, .nilSlice, .nilSlice, .nilSlice, .nilSlice, .nilSlice, .nilSlice, .nilSlice, .nilSlice, .nilSlice, .nilSlice, .nilSlice, .nilSlice, .nilSlice, .nilSlice, .nilSlice, .nilSlice, .nilSlice, .nilSlice, .nilSlice, .nilSlice, .nilSlice, .nilSlice, .nilSlice, .nilSlice, .nilSlice, .nilSlice, .nilSlice, .nilSlice, .nilSlice, .nilSlice, .nilSlice, .nilSlice, .nilSlice, .nilSlice, .nilSlice, .nilSlice, .nilSlice, .nilSlice, .nilSlice, .nilSlice, .nilSlice, .nilSlice, .nilSlice, .nilSlice, .nilSlice, .nilSlice, .nilSlice, .nilSlice, .nilSlice, .nilSlice, .nilSlice, .nilSlice, .nilSlice, .nilSlice, .nilSlice, .nilSlice, .nilSlice, .nilSlice, .nilSlice, .nilSlice, .nilSlice, .nilSlice, .nilSlice, .nilSlice, .nilSlice, .nilSlice, .nilSlice, .nilSlice, .nilSlice, .nilSlice, .nilSlice, .nilSlice, .nilSlice, .nilSlice, .nilSlice, .nilSlice, .nilSlice, .nilSlice, .nilSlice, .nilSlice, .nilSlice, .nilSlice, .nilSlice, .nilSlice, .nilSlice, .nilSlice, .nilSlice, .nilSlice, .nilSlice, .nilSlice, .nilSlice, .nilSlice, .nilSlice, .nilSlice, .nilSlice, .nilSlice, .nilSlice, .nilSlice, .nilSlice, .nilSlice, .nilSlice, .nilSlice, .nilSlice, .nilSlice, .nilSlice, .nilSlice, .nilSlice, .nilSlice, .nilSlice, .nilSlice, .nilSlice, .nilSlice, .nilSlice, .nilSlice, .nilSlice, .nilSlice, .nilSlice, .nilSlice, .nilSlice, .nilSlice, .nilSlice, .nilSlice, .nilSlice, .nilSlice, .nilSlice, .nilSlice, .nilSlice, .nilSlice, .nilSlice, .nilSlice, .nilSlice, .nilSlice, .nilSlice, .nilSlice, .nilSlice, .nilSlice, .nilSlice, .nilSlice, .nilSlice, .nilSlice, .nilSlice, .nilSlice, .nilSlice, .nilSlice, .nilSlice, .nilSlice, .nilSlice, .nilSlice, .nilSlice, .nilSlice, .nilSlice, .nilSlice, .nilSlice, .nilSlice, .nilSlice, .nilSlice, .nilSlice, .nilSlice, .nilSlice, .nilSlice, .nilSlice, .nilSlice, .nilSlice, .nilSlice, .nilSlice, .nilSlice, .nilSlice, .nilSlice, .nilSlice]) := by kernel_rfl
theorem tk135 : tk Tryz.prog 135 = .struct [(0, 133), (256, 73)] := by kernel_rfl
theorem sz135 : sz Tryz.prog 135 = some 257 := by kernel_rfl
theorem byt135 : byt Tryz.prog 135 = some 6168 := by kernel_rfl
theorem zero135 : zeroT Tryz.prog 135 = some (.agg [.nilSlice, .nilSlice, .nilSlice, .nilSlice, .nilSlice, .nilSlice, .nilSlice, .nilSlice, .nilSlice, .nilSlice, .nilSlice, .nilSlice, .nilSlice, .nilSlice, .nilSlice, .nilSlice, .nilSlice, .nilSlice, .nilSlice, .nilSlice, .nilSlice, .nilSlice, .nilSlice, .nilSlice, .nilSlice, .nilSlice, .nilSlice, .nilSlice, .nilSlice, .nilSlice, .nilSlice, .nilSlice, .nilSlice, .nilSlice, .nilSlice, .nilSlice, .nilSlice, .nilSlice, .nilSlice, .nilSlice, .nilSlice, .nilSlice, .nilSlice, .nilSlice, .nilSlice, .nilSlice, .nilSlice, .nilSlice, .nilSlice, .nilSlice, .nilSlice, .nilSlice, .nilSlice, .nilSlice, .nilSlice, .nilSlice, .nilSlice, .nilSlice, .nilSlice, .nilSlice, .nilSlice, .nilSlice, .nilSlice, .nilSlice, .nilSlice, .nilSlice, .nilSlice, .nilSlice, .nilSlice, .nilSlice, .nilSlice, .nilSlice, .nilSlice, .nilSlice, .nilSlice, .nilSlice, .nilSlice, .nilSlice, .nilSlice, .nilSlice, .nilSlice, .nilSlice, .nilSlice, .nilSlice, .nilSlice, .nilSlice, .nilSlice, .nilSlice, .nilSlice, .nilSlice, .nilSlice, .nilSlice, .nilSlice, .nilSlice, .nilSlice, .nilSlice, .nilSlice, .nilSlice, .nilSlice, .nilSlice, .nilSlice, .nilSlice, .nilSlice, .nilSlice, .nilSlice, .nilSlice, .nilSlice, .nilSlice, .nilSlice, .nilSlice, .nilSlice, .nilSlice, .nilSlice, .nilSlice, .nilSlice, .nilSlice, .nilSlice, .nilSlice, .nilSlice, .nilSlice, .nilSlice, .nilSlice, .nilSlice, .nilSlice, .nilSlice, .nilSlice, .nilSlice, .nilSlice, .nilSlice, .nilSlice, .nilSlice, .nilSlice, .nilSlice, .nilSlice, .nilSlice, .nilSlice, .nilSlice, .nilSlice, .nilSlice, .nilSlice, .nilSlice, .nilSlice, .nilSlice, .nilSlice, .nilSlice, .nilSlice, .nilSlice, .nilSlice, .nilSlice, .nilSlice, .nilSlice, .nilSlice, .nilSlice, .nilSlice, .nilSlice, .nilSlice, .nilSlice, .nilSlice, .nilSlice, .nilSlice, .nilSlice, .nilSlice, .nilSlice, .nilSlice, .nilSlice, .nilSlice, .nilSlice, .nilSlice, .nilSlice, .nilSlice, .nilSlice, .nilSlice, .nilSlice, .nilSlice, .nilSlice, .nilSlice, .nilSlice, .nilSlice, .nilSlice, .nilSlice, .nilSlice, .nilSlice, .nilSlice, .nilSlice, .nilSlice, .nilSlice, .nilSlice, .nilSlice, .nilSlice, .nilSlice, .nilSlice, .nilSlice, .nilSlice, .nilSlice, .nilSlice, .nilSlice, .nilSlice, .nilSlice, .nilSlice, .nilSlice, .nilSlice, .nilSlice, .nilSlice, .nilSlice, .nilSlice, .nilSlice, .nilSlice, .nilSlice, .nilSlice, .nilSlice, .nilSlice, .nilSlice, .nilSlice, .nilSlice, .nilSlice, .nilSlice, .nilSlice, .nilSlice, .nilSlice, .nilSlice, .nilSlice, .nilSlice, .nilSlice, .nilSlice, .nilSlice, .nilSlice, .nilSlice, .nilSlice, .nilSlice, .nilSlice, .nilSlice, .nilSlice, .nilSlice, .nilSlice, .nilSlice, .nilSlice, .nilSlice, .nilSlice, .nilSlice, .nilSlice, .nilSlice, .nilSlice, .nilSlice, .nilSlice, .nilSlice, .nilSlice, .nilSlice, .nilSlice, .nilSlice, .nilSlice, .nilSlice, .nilSlice, .nilSlice, .nilSlice, .nilSlice, .nilSlice, .nilSlice]) := by kernel_rfl
theorem tk136 : tk Tryz.prog 136 = .ptr 135 := by kernel_rfl
theorem sz136 : sz Tryz.prog 136 = some 1 := by kernel_rfl
theorem byt136 : byt Tryz.prog 136 = some 8 := by kernel_rfl
theorem zero136 : zeroT Tryz.prog 136 = some (.nilPtr) := by kernel_rfl
theorem tk137 : tk Tryz.prog 137 = .func := by kernel_rfl
theorem sz137 : sz Tryz.prog 137 = some 1 := by kernel_rfl
theorem byt137 : byt Tryz.prog 137 = some 8 := by kernel_rfl
theorem zero137 : zeroT Tryz.prog 137 = some (.nilFunc) := by kernel_rfl
theorem tk138 : tk Tryz.prog 138 = .func := by kernel_rfl
theorem sz138 : sz Tryz.prog 138 = some 1 := by kernel_rfl
theorem byt138 : byt Tryz.prog 138 = some 8 := by kernel_rfl
theorem zero138 : zeroT Tryz.prog 138 = some (.nilFunc) := by kernel_rfl
theorem tk139 : tk Tryz.prog 139 = .func := by kernel_rfl
theorem sz139 : sz Tryz.prog 139 = some 1 := by kernel_rfl
theorem byt139 : byt Tryz.prog 139 = some 8 := by kernel_rfl
theorem zero139 : zeroT Tryz.prog 139 = some (.nilFunc) := by kernel_rfl
theorem tk140 : tk Tryz.prog 140 = .ptr 5 := by kernel_rfl
theorem sz140 : sz Tryz.prog 140 = some 1 := by kernel_rfl
theorem byt140 : byt Tryz.prog 140 = some 8 := by kernel_rfl
theorem zero140 : zeroT Tryz.prog 140 = some (.nilPtr) := by kernel_rfl
theorem tk141 : tk Tryz.prog 141 = .ptr 143 := by kernel_rfl
theorem sz141 : sz Tryz.prog 141 = some 1 := by kernel_rfl
theorem byt141 : byt Tryz.prog 141 = some 8 := by kernel_rfl
theorem zero141 : zeroT Tryz.prog 141 = some (.nilPtr) := by kernel_rfl
theorem tk142 : tk Tryz.prog 142 = .struct [(0, 9)] := by kernel_rfl
theorem sz142 : sz Tryz.prog 142 = some 1 := by kernel_rfl
theorem byt142 : byt Tryz.prog 142 = some 16 := by kernel_rfl
theorem zero142 : zeroT Tryz.prog 142 = some (.agg [.str ⟨#[]⟩]) := by kernel_rfl
theorem tk143 : tk Tryz.prog 143 = .struct [(0, 9)] := by kernel_rfl
theorem sz143 : sz Tryz.prog 143 = some 1 := by kernel_rfl
theorem byt143 : byt Tryz.prog 143 = some 16 := by kernel_rfl
theorem zero143 : zeroT Tryz.prog 143 = some (.agg [.str ⟨#[]⟩]) := by kernel_rfl
theorem tk144 : tk Tryz.prog 144 = .func := by kernel_rfl
theorem sz144 : sz Tryz.prog 144 = some 1 := by kernel_rfl
theorem byt144 : byt Tryz.prog 144 = some 8 := by kernel_rfl
theorem zero144 : zeroT Tryz.prog 144 = some (.nilFunc) := by kernel_rfl
theorem tk145 : tk Tryz.prog 145 = .ptr 83 := by kernel_rfl
theorem sz145 : sz Tryz.prog 145 = some 1 := by kernel_rfl
theorem byt145 : byt Tryz.prog 145 = some 8 := by kernel_rfl
theorem zero145 : zeroT Tryz.prog 145 = some (.nilPtr) := by kernel_rfl
theorem tk146 : tk Tryz.prog 146 = .func := by kernel_rfl
theorem sz146 : sz Tryz.prog 146 = some 1 := by kernel_rfl
theorem byt146 : byt Tryz.prog 146 = some 8 := by kernel_rfl
theorem zero146 : zeroT Tryz.prog 146 = some (.nilFunc) := by kernel_rfl
theorem tk147 : tk Tryz.prog 147 = .func := by kernel_rfl
theorem sz147 : sz Tryz.prog 147 = some 1 := by kernel_rfl
theorem byt147 : byt Tryz.prog 147 = some 8 := by kernel_rfl
theorem zero147 : zeroT Tryz.prog 147 = some (.nilFunc) := by kernel_rfl
theorem tk148 : tk Tryz.prog 148 = .ptr 171 := by kernel_rfl
theorem sz148 : sz Tryz.prog 148 = some 1 := by kernel_rfl
theorem byt148 : byt Tryz.prog 148 = some 8 := by kernel_rfl
theorem zero148 : zeroT Tryz.prog 148 = some (.nilPtr) := by kernel_rfl
theorem tk149 : tk Tryz.prog 149 = .func := by kernel_rfl
theorem sz149 : sz Tryz.prog 149 = some 1 := by kernel_rfl
theorem byt149 : byt Tryz.prog 149 = some 8 := by kernel_rfl
theorem zero149 : zeroT Tryz.prog 149 = some (.nilFunc) := by kernel_rfl
theorem tk150 : tk Tryz.prog 150 = .struct [(0, 148), (1, 9)] := by kernel_rfl
theorem sz150 : sz Tryz.prog 150 = some 2 := by kernel_rfl
theorem byt150 : byt Tryz.prog 150 = some 24 := by kernel_rfl
theorem zero150 : zeroT Tryz.prog 150 = some (.agg [.nilPtr, .str ⟨#[]⟩]) := by kernel_rfl
theorem tk151 : tk Tryz.prog 151 = .struct [(0, 148), (1, 9)] := by kernel_rfl
theorem sz151 : sz Tryz.prog 151 = some 2 := by kernel_rfl
theorem byt151 : byt Tryz.prog 151 = some 24 := by kernel_rfl
theorem zero151 : zeroT Tryz.prog 151 = some (.agg [.nilPtr, .str ⟨#[]⟩]) := by kernel_rfl
theorem tk152 : tk Tryz.prog 152 = .ptr 155 := by kernel_rfl
theorem sz152 : sz Tryz.prog 152 = some 1 := by kernel_rfl
theorem byt152 : byt Tryz.prog 152 = some 8 := by kernel_rfl
theorem zero152 : zeroT Tryz.prog 152 = some (.nilPtr) := by kernel_rfl
theorem tk153 : tk Tryz.prog 153 = .slice 152 := by kernel_rfl
theorem sz153 : sz Tryz.prog 153 = some 1 := by kernel_rfl
theorem byt153 : byt Tryz.prog 153 = some 24 := by kernel_rfl
theorem zero153 : zeroT Tryz.prog 153 = some (.nilSlice) := by kernel_rfl
theorem tk154 : tk Tryz.prog 154 = .struct [(0, 9), (1, 3), (2, 9), (3, 152), (4, 153)] := by kernel_rfl
theorem sz154 : sz Tryz.prog 154 = some 5 := by kernel_rfl
theorem byt154 : byt Tryz.prog 154 = some 72 := by kernel_rfl
theorem zero154 : zeroT Tryz.prog 154 = some (.agg [.str ⟨#[]⟩, .int .i64 0, .str ⟨#[]⟩, .nilPtr, .nilSlice]) := by kernel_rfl
theorem tk155 : tk Tryz.prog 155 = .struct [(0, 9), (1, 3), (2, 9), (3, 152), (4, 153)] := by kernel_rfl
theorem sz155 : sz Tryz.prog 155 = some 5 := by kernel_rfl
theorem byt155 : byt Tryz.prog 155 = some 72 := by kernel_rfl
theorem zero155 : zeroT Tryz.prog 155 = some (.agg [.str ⟨#[]⟩, .int .i64 0, .str ⟨#[]⟩, .nilPtr, .nilSlice]) := by kernel_rfl
theorem tk156 : tk Tryz.prog 156 = .struct [(0, 155), (5, 3), (6, 130)] := by kernel_rfl
theorem sz156 : sz Tryz.prog 156 = some 262 := by kernel_rfl
theorem byt156 : byt Tryz.prog 156 = some 336 := by kernel_rfl
theorem zero156 : zeroT Tryz.prog 156 = some (.agg [.str ⟨#[]⟩, .int .i64 0, .str ⟨#[]⟩, .nilPtr, .nilSlice, .int .i64 0, .int .u8 0, .int .u8 0, .int .u8 0, .int .u8 0, .int .u8 0, .int .u8 0, .int .u8 0, .int .u8 0, .int .u8 0, .int .u8 0, .int .u8 0, .int .u8 0, .int .u8 0, .int .u8 0, .int .u8 0, .int .u8 0, .int .u8 0, .int .u8 0, .int .u8 0, .int .u8 0, .int .u8 0, .int .u8 0, .int .u8 0, .int .u8 0, .int .u8 0, .int .u8 0, .int .u8 0, .int .u8 0, .int .u8 0, .int .u8 0, .int .u8 0, .int .u8 0, .int .u8 0, .int .u8 0, .int .u8 0, .int .u8 0, .int .u8 0, .int .u8 0, .int .u8 0, .int .u8 0, .int .u8 0, .int .u8 0, .int .u8 0, .int .u8 0, .int .u8 0, .int .u8 0, .int .u8 0, .int .u8 0, .int .u8 0, .int .u8 0, .int .u8 0, .int .u8 0, .int .u8 0, .int .u8 0, .int .u8 0, .int .u8 0, .int .u8 0, .int .u8 0, .int .u8 0, .int .u8 0, .int .u8 0, .int .u8 0, .int .u8 0, .int .u8 0, .int .u8 0, .int .u8 0, .int .u8 0, .int .u8 0, .int .u8 0, .int .u8 0, .int .u8 0, .int .u8 0, .int .u8 0, .int .u8 0, .int .u8 0, .int .u8 0, .int .u8 0, .int .u8 0, .int .u8 0, .int .u8 0, .int .u8 0, .int .u8 0, .int .u8 0, .int .u8 0, .int .u8 0, .int .u8 0, .int .u8 0, .int .u8 0, .int .u8 0, .int .u8 0, .int .u8 0, .int .u8 0, .int .u8 0, .int .u8 0, .int .u8 0, .int .u8 0, .int .u8 0, .int .u8 0, .int .u8 0, .int .u8 0, .int .u8 0, .int .u8 0, .int .u8 0, .int .u8 0, .int .u8 0, .int .u8 0, .int .u8 0, .int .u8 0, .int .u8 0, .int .u8 0, .int .u8 0, .int .u8 0, .int .u8 0, .int .u8 0, .int .u8 0, .int .u8 0, .int .u8 0, .int .u8 0, .int .u8 0, .int .u8 0, .int .u8 0, .int .u8 0, .int .u8 0, .int .u8 0, .int .u8 0, .int .u8 0, .int .u8 0, .int .u8 0, .int .u8 0, .int .u8 0, .int .u8 0, .int .u8 0, .int .u8 0, .int .u8 0, .int .u8 0, .int .u8 0, .int .u8 0, .int .u8 0, .int .u8 0, .int .u8 0, .int .u8 0, .int .u8 0, .int .u8 0, .int .u8 0, .int .u8 0, .int .u8 0, .int .u8 0, .int .u8 0, .int .u8 0, .int .u8 0, .int .u8 0, .int .u8 0, .int .u8 0, .int .u8 0, .int .u8 0, .int .u8 0, .int .u8 0, .int .u8 0, .int .u8 0, .int .u8 0, .int .u8 0, .int .u8 0, .int .u8 0, .int .u8 0, .int .u8 0, .int .u8 0, .int .u8 0, .int .u8 0, .int .u8 0, .int .u8 0, .int .u8 0, .int .u8 0, .int .u8 0, .int .u8 0, .int .u8 0, .int .u8 0, .int .u8 0, .int .u8 0, .int .u8 0, .int .u8 0, .int .u8 0, .int .u8 0, .int .u8 0, .int .u8 0, .int .u8 0, .int .u8 0, .int .u8 0, .int .u8 0, .int .u8 0, .int .u8 0, .int .u8 0, .int .u8 0, .int .u8 0, .int .u8 0, .int .u8 0, .int .u8 0, .int .u8 0, .int .u8 0, .int .u8 0, .int .u8 0, .int .u8 0, .int .u8 0, .int .u8 0, .int .u8 0, .int .u8 0, .int .u8 0, .int .u8 0, .int .u8 0, .int .u8 0, .int .u8 0, .int .u8 0, .int .u8 0, .int .u8 0, .int .u8 0, .int .u8 0, .int .u8 0, .int .u8 0, .int .u8 0, .int .u8 0, .int .u8 0, .int .u8 0, .int .u8 0, .int .u8 0, .int .u8 0, .int .u8 0, .int .u8 0, .int .u8 0, .int .u8 0, .int .u8 0, .int .u8 0, .int .u8 0, .int .u8 0, .int .u8 0, .int .u8 0, .int .u8 0, .int .u8 0, .int .u8 0, .int .u8 0, .int .u8 0, .int .u8 0, .int .u8 0, .int .u8 0, .int .u8 0, .int .u8 0, .int .u8 0, .int .u8 0, .int .u8 0, .int .u8 0, .int .u8 0, .int .u8 0, .int .u8 0, .int .u8 0, .int .u8 0, .int .u8 0, .int .u8 0, .int .u8 0]) := by kernel_rfl
theorem tk157 : tk Tryz.prog 157 = .struct [(0, 155), (5, 3), (6, 130)] := by kernel_rfl
theorem sz157 : sz Tryz.prog 157 = some 262 := by kernel_rfl
theorem byt157 : byt Tryz.prog 157 = some 336 := by kernel_rfl
theorem zero157 : zeroT Tryz.prog 157 = some (.agg [.str ⟨#[]⟩, .int .i64 0, .str ⟨#[]⟩, .nilPtr, .nilSlice, .int .i64 0, .int .u8 0, .int .u8 0, .int .u8 0, .int .u8 0, .int .u8 0, .int .u8 0, .int .u8 0, .int .u8 0, .int .u8 0, .int .u8 0, .int .u8 0, .int .u8 0, .int .u8 0, .int .u8 0, .int .u8 0, .int .u8 0, .int .u8 0, .int .u8 0, .int .u8 0, .int .u8 0, .int .u8 0, .int .u8 0, .int .u8 0, .int .u8 0, .int .u8 0, .int .u8 0, .int .u8 0, .int .u8 0, .int .u8 0, .int .u8 0, .int .u8 0, .int .u8 0, .int .u8 0, .int .u8 0, .int .u8 0, .int .u8 0, .int .u8 0, .int .u8 0, .int .u8 0, .int .u8 0, .int .u8 0, .int .u8 0, .int .u8 0, .int .u8 0, .int .u8 0, .int .u8 0, .int .u8 0, .int .u8 0, .int .u8 0, .int .u8 0, .int .u8 0, .int .u8 0, .int .u8 0, .int .u8 0, .int .u8 0, .int .u8 0, .int .u8 0, .int .u8 0, .int .u8 0, .int .u8 0, .int .u8 0, .int .u8 0, .int .u8 0, .int .u8 0, .int .u8 0, .int .u8 0, .int .u8 0, .int .u8 0, .int .u8 0, .int .u8 0, .int .u8 0, .int .u8 0, .int .u8 0, .int .u8 0, .int .u8 0, .int .u8 0, .int .u8 0, .int .u8 0, .int .u8 0, .int .u8 0, .int .u8 0, .int .u8 0, .int .u8 0, .int .u8 0, .int .u8 0, .int .u8 0, .int .u8 0, .int .u8 0, .int .u8 0, .int .u8 0, .int .u8 0, .int .u8 0, .int .u8 0, .int .u8 0, .int .u8 0, .int .u8 0, .int .u8 0, .int .u8 0, .int .u8 0, .int .u8 0, .int .u8 0, .int .u8 0, .int .u8 0, .int .u8 0, .int .u8 0, .int .u8 0, .int .u8 0, .int .u8 0, .int .u8 0, .int .u8 0, .int .u8 0, .int .u8 0, .int .u8 0, .int .u8 0, .int .u8 0, .int .u8 0, .int .u8 0, .int .u8 0, .int .u8 0, .int .u8 0, .int .u8 0, .int .u8 0, .int .u8 0, .int .u8 0, .int .u8 0, .int .u8 0, .int .u8 0, .int .u8 0, .int .u8 0, .int .u8 0, .int .u8 0, .int .u8 0, .int .u8 0, .int .u8 0, .int .u8 0, .int .u8 0, .int .u8 0, .int .u8 0, .int .u8 0, .int .u8 0, .int .u8 0, .int .u8 0, .int .u8 0, .int .u8 0, .int .u8 0, .int .u8 0, .int .u8 0, .int .u8 0, .int .u8 0, .int .u8 0, .int .u8 0, .int .u8 0, .int .u8 0, .int .u8 0, .int .u8 0, .int .u8 0, .int .u8 0, .int .u8 0, .int .u8 0, .int .u8 0, .int .u8 0, .int .u8 0, .int .u8 0, .int .u8 0, .int .u8 0, .int .u8 0, .int .u8 0, .int .u8 0, .int .u8 0, .int .u8 0, .int .u8 0, .int .u8 0, .int .u8 0, .int .u8 0, .int .u8 0, .int .u8 0, .int .u8 0, .int .u8 0, .int .u8 0, .int .u8 0, .int .u8 0, .int .u8 0, .int .u8 0, .int .u8 0, .int .u8 0, .int .u8 0, .int .u8 0, .int .u8 0, .int .u8 0, .int .u8 0, .int .u8 0, .int .u8 0, .int .u8 0, .int .u8 0, .int .u8 0, .int .u8 0, .int .u8 0, .int .u8 0, .int .u8 0, .int .u8 0, .int .u8 0, .int .u8 0, .int .u8 0, .int .u8 0, .int .u8 0, .int .u8 0, .int .u8 0, .int .u8 0, .int .u8 0, .int .u8 0, .int .u8 0, .int .u8 0, .int .u8 0, .int .u8 0, .int .u8 0, .int .u8 0, .int .u8 0, .int .u8 0, .int .u8 0, .int .u8 0, .int .u8 0, .int .u8 0, .int .u8 0, .int .u8 0, .int .u8 0, .int .u8 0, .int .u8 0, .int .u8 0, .int .u8 0, .int .u8 0, .int .u8 0, .int .u8 0, .int .u8 0, .int .u8 0, .int .u8 0, .int .u8 0, .int .u8 0, .int .u8 0, .int .u8 0, .int .u8 0, .int .u8 0, .int .u8 0, .int .u8 0, .int .u8 0, .int .u8 0, .int .u8 0, .int .u8 0, .int .u8 0, .int .u8 0, .int .u8 0, .int .u8 0, .int .u8 0, .int .u8 0, .int .u8 0, .int .u8 0, .int .u8 0]) := by kernel_rfl
theorem tk158 : tk Tryz.prog 158 = .func := by kernel_rfl
theorem sz158 : sz Tryz.prog 158 = some 1 := by kernel_rfl
theorem byt158 : byt Tryz.prog 158 = some 8 := by kernel_rfl
theorem zero158 : zeroT Tryz.prog 158 = some (.nilFunc) := by kernel_rfl
theorem tk159 : tk Tryz.prog 159 = .array 32 5 := by kernel_rfl
theorem sz159 : sz Tryz.prog 159 = some 32 := by kernel_rfl
theorem byt159 : byt Tryz.prog 159 = some 32 := by kernel_rfl
theorem zero159 : zeroT Tryz.prog 159 = some (.agg [.int .u8 0, .int .u8 0, .int .u8 0, .int .u8 0, .int .u8 0, .int .u8 0, .int .u8 0, .int .u8 0, .int .u8 0, .int .u8 0, .int .u8 0, .int .u8 0, .int .u8 0, .int .u8 0, .int .u8 0, .int .u8 0, .int .u8 0, .int .u8 0, .int .u8 0, .int .u8 0, .int .u8 0, .int .u8 0, .int .u8 0, .int .u8 0, .int .u8 0, .int .u8 0, .int .u8 0, .int .u8 0, .int .u8 0, .int .u8 0, .int .u8 0, .int .u8 0]) := by kernel_rfl
theorem tk160 : tk Tryz.prog 160 = .array 64 5 := by kernel_rfl
theorem sz160 : sz Tryz.prog 160 = some 64 := by kernel_rfl
theorem byt160 : byt Tryz.prog 160 = some 64 := by kernel_rfl
theorem zero160 : zeroT Tryz.prog 160 = some (.agg [.int .u8 0, .int .u8 0, .int .u8 0, .int .u8 0, .int .u8 0, .int .u8 0, .int .u8 0, .int .u8 0, .int .u8 0, .int .u8 0, .int .u8 0, .int .u8 0, .int .u8 0, .int .u8 0, .int .u8 0, .int .u8 0, .int .u8 0, .int .u8 0, .int .u8 0, .int .u8 0, .int .u8 0, .int .u8 0, .int .u8 0, .int .u8 0, .int .u8 0, .int .u8 0, .int .u8 0, .int .u8 0, .int .u8 0, .int .u8 0, .int .u8 0, .int .u8 0, .int .u8 0, .int .u8 0, .int .u8 0, .int .u8 0, .int .u8 0, .int .u8 0, .int .u8 0, .int .u8 0, .int .u8 0, .int .u8 0, .int .u8 0, .int .u8 0, .int .u8 0, .int .u8 0, .int .u8 0, .int .u8 0, .int .u8 0, .int .u8 0, .int .u8 0, .int .u8 0, .int .u8 0, .int .u8 0, .int .u8 0, .int .u8 0, .int .u8 0, .int .u8 0, .int .u8 0, .int .u8 0, .int .u8 0, .int .u8 0, .int .u8 0, .int .u8 0]) := by kernel_rfl
theorem tk161 : tk Tryz.prog 161 = .ptr 81 := by kernel_rfl
theorem sz161 : sz Tryz.prog 161 = some 1 := by kernel_rfl
theorem byt161 : byt Tryz.prog 161 = some 8 := by kernel_rfl
theorem zero161 : zeroT Tryz.prog 161 = some (.nilPtr) := by kernel_rfl
theorem tk162 : tk Tryz.prog 162 = .func := by kernel_rfl
theorem sz162 : sz Tryz.prog 162 = some 1 := by kernel_rfl
theorem byt162 : byt Tryz.prog 162 = some 8 := by kernel_rfl
theorem zero162 : zeroT Tryz.prog 162 = some (.nilFunc) := by kernel_rfl
theorem tk163 : tk Tryz.prog 163 = .ptr 21 := by kernel_rfl
theorem sz163 : sz Tryz.prog 163 = some 1 := by kernel_rfl
theorem byt163 : byt Tryz.prog 163 = some 8 := by kernel_rfl
theorem zero163 : zeroT Tryz.prog 163 = some (.nilPtr) := by kernel_rfl
theorem tk164 : tk Tryz.prog 164 = .func := by kernel_rfl
theorem sz164 : sz Tryz.prog 164 = some 1 := by kernel_rfl
theorem byt164 : byt Tryz.prog 164 = some 8 := by kernel_rfl
theorem zero164 : zeroT Tryz.prog 164 = some (.nilFunc) := by kernel_rfl
theorem tk166 : tk Tryz.prog 166 = .func := by kernel_rfl
theorem sz166 : sz Tryz.prog 166 = some 1 := by kernel_rfl
theorem byt166 : byt Tryz.prog 166 = some 8 := by kernel_rfl
theorem zero166 : zeroT Tryz.prog 166 = some (.nilFunc) := by kernel_rfl
theorem tk167 : tk Tryz.prog 167 = .func := by kernel_rfl
theorem sz167 : sz Tryz.prog 167 = some 1 := by kernel_rfl
theorem byt167 : byt Tryz.prog 167 = some 8 := by kernel_rfl
theorem zero167 : zeroT Tryz.prog 167 = some (.nilFunc) := by kernel_rfl
theorem tk168 : tk Tryz.prog 168 = .slice 3 := by kernel_rfl
theorem sz168 : sz Tryz.prog 168 = some 1 := by kernel_rfl
theorem byt168 : byt Tryz.prog 168 = some 24 := by kernel_rfl
theorem zero168 : zeroT Tryz.prog 168 = some (.nilSlice) := by kernel_rfl
theorem tk169 : tk Tryz.prog 169 = .array 256 3 := by kernel_rfl
theorem sz169 : sz Tryz.prog 169 = some 256 := by kernel_rfl
theorem byt169 : byt Tryz.prog 169 = some 2048 := by kernel_rfl
theorem zero169 : zeroT Tryz.prog 169 = some (.agg [.int .i64 0, .int .i64 0, .int .i64 0, .int .i64 0, .int .i64 0, .int .i64 0, .int .i64 0, .int .i64 0, .int .i64 0, .int .i64 0, .int .i64 0, .int .i64 0, .int .i64 0, .int .i64 0, .int .i64 0, .int .i64 0, .int .i64 0, .int .i64 0, .int .i64 0, .int .i64 0, .int .i64 0, .int .i64 0, .int .i64 0, .int .i64 0, .int .i64 0, .int .i64 0, .int .i64 0, .int .i64 0, .int .i64 0, .int .i64 0, .int .i64 0, .int .i64 0, .int .i64 0, .int .i64 0, .int .i64 0, .int .i64 0, .int .i64 0, .int .i64 0, .int .i64 0, .int .i64 0, .int .i64 0, .int .i64 0, .int .i64 0, .int .i64 0, .int .i64 0, .int .i64 0, .int .i64 0, .int .i64 0, .int .i64 0, .int .i64 0, .int .i64 0, .int .i64 0, .int .i64 0, .int .i64 0, .int .i64 0, .int .i64 0, .int .i64 0, .int .i64 0, .int .i64 0, .int .i64 0, .int .i64 0, .int .i64 0, .int .i64 0, .int .i64 0, .int .i64 0, .int .i64 0, .int .i64 0, .int .i64 0, .int .i64 0, .int .i64 0, .int .i64 0, .int .i64 0, .int .i64 0, .int .i64 0, .int .i64 0, .int .i64 0, .int .i64 0, .int .i64 0, .int .i64 0, .int .i64 0, .int .i64 0, .int .i64 0, .int .i64 0, .int .i64 0, .int .i64 0, .int .i64 0, .int .i64 0, .int .i64 0, .int .i64 0, .int .i64 0, .int .i64 0, .int .i64 0, .int .i64 0, .int .i64 0, .int .i64 0, .int .i64 0, .int .i64 0, .int .i64 0, .int .i64 0, .int .i64 0, .int .i64 0, .int .i64 0, .int .i64 0, .int .i64 0, .int .i64 0, .int .i64 0, .int .i64 0, .int .i64 0, .int .i64 0, .int .i64 0, .int .i64 0, .int .i64 0, .int .i64 0, .int .i64 0, .int .i64 0, .int .i64 0, .int .i64 0, .int .i64 0, .int .i64 0, .int .i64 0, .int .i64 0, .int .i64 0, .int .i64 0, .int .i64 0, .int .i64 0, .int .i64 0, .int .i64 0, .int .i64 0, .int .i64 0, .int .i64 0, .int .i64 0, .int .i64 0, .int .i64 0, .int .i64 0, .int .i64 0, .int .i64 0, .int .i64 0, .int .i64 0, .int .i64 0, .int .i64 0, .int .i64 0, .int .i64 0, .int .i64 0, .int .i64 0, .int .i64 0, .int .i64 0, .int .i64 0, .int .i64 0, .int .i64 0, .int .i64 0, .int .i64 0, .int .i64 0, .int .i64 0, .int .i64 0, .int .i64 0, .int .i64 0, .int .i64 0, .int .i64 0, .int .i64 0, .int .i64 0, .int .i64 0, .int .i64 0, .int .i64 0, .int .i64 0, .int .i64 0, .int .i64 0, .int .i64 0, .int .i64 0, .int .i64 0, .int .i64 0, .int .i64 0, .int .i64 0, .int .i64 0, .int .i64 0, .int .i64 0, .int .i64 0, .int .i64 0, .int .i64 0, .int .i64 0, .int .i64 0, .int .i64 0, .int .i64 0, .int .i64 0, .int .i64 0, .int .i64 0, .int .i64 0, .int .i64 0, .int .i64 0, .int .i64 0, .int .i64 0, .int .i64 0, .int .i64 0, .int .i64 0, .int .i64 0, .int .i64 0, .int .i64 0, .int .i64 0, .int .i64 0, .int .i64 0, .int .i64 0, .int .i64 0, .int .i64 0, .int .i64 0, .int .i64 0, .int .i64 0, .int .i64 0, .int .i64 0, .int .i64 0, .int .i64 0, .int .i64 0, .int .i64 0, .int .i64 0, .int .i64 0, .int .i64 0, .int .i64 0, .int .i64 0, .int .i64 0, .int .i64 0, .int .i64 0, .int .i64 0, .int .i64 0, .int .i64 0, .int .i64 0, .int .i64 0, .int .i64 0, .int .i64 0, .int .i64 0, .int .i64 0, .int .i64 0, .int .i64 0, .int .i64 0, .int .i64 0, .int .i64 0, .int .i64 0, .int .i64 0, .int .i64 0, .int .i64 0, .int .i64 0, .int .i64 0, .int .i64 0, .int .i64 0, .int .i64 0, .int .i64 0, .int .i64 0, .int .i64 0, .int .i64 0, .int .i64 0, .int .i64 0, .int .i64 0, .int .i64 0, .int .i64 0, .int .i64 0, .int .i64 0, .int .i64 0, .int .i64 0, .int .i64 0]) := by kernel_rfl
theorem tk170 : tk Tryz.prog 170 = .struct [(0, 9), (1, 169), (257, 168)] := by kernel_rfl
theorem sz170 : sz Tryz.prog 170 = some 258 := by kernel_rfl
theorem byt170 : byt Tryz.prog 170 = some 2088 := by kernel_rfl
theorem zero170 : zeroT Tryz.prog 170 = some (.agg [.str ⟨#[]⟩, .int .i64 0, .int .i64 0, .int .i64 0, .int .i64 0, .int .i64 0, .int .i64 0, .int .i64 0, .int .i64 0, .int .i64 0, .int .i64 0, .int .i64 0, .int .i64 0, .int .i64 0, .int .i64 0, .int .i64 0, .int .i64 0, .int .i64 0, .int .i64 0, .int .i64 0, .int .i64 0, .int .i64 0, .int .i64 0, .int .i64 0, .int .i64 0, .int .i64 0, .int .i64 0, .int .i64 0, .int .i64 0, .int .i64 0, .int .i64 0, .int .i64 0, .int .i64 0, .int .i64 0, .int .i64 0, .int .i64 0, .int .i64 0, .int .i64 0, .int .i64 0, .int .i64 0, .int .i64 0, .int .i64 0, .int .i64 0, .int .i64 0, .int .i64 0, .int .i64 0, .int .i64 0, .int .i64 0, .int .i64 0, .int .i64 0, .int .i64 0, .int .i64 0, .int .i64 0, .int .i64 0, .int .i64 0, .int .i64 0, .int .i64 0, .int .i64 0, .int .i64 0, .int .i64 0, .int .i64 0, .int .i64 0, .int .i64 0, .int .i64 0, .int .i64 0, .int .i64 0, .int .i64 0, .int .i64 0, .int .i64 0, .int .i64 0, .int .i64 0, .int .i64 0, .int .i64 0, .int .i64 0, .int .i64 0, .int .i64 0, .int .i64 0, .int .i64 0, .int .i64 0, .int .i64 0, .int .i64 0, .int .i64 0, .int .i64 0, .int .i64 0, .int .i64 0, .int .i64 0, .int .i64 0, .int .i64 0, .int .i64 0, .int .i64 0, .int .i64 0, .int .i64 0, .int .i64 0, .int .i64 0, .int .i64 0, .int .i64 0, .int .i64 0, .int .i64 0, .int .i64 0, .int .i64 0, .int .i64 0, .int .i64 0, .int .i64 0, .int .i64 0, .int .i64 0, .int .i64 0, .int .i64 0, .int .i64 0, .int .i64 0, .int .i64 0, .int .i64 0, .int .i64 0, .int .i64 0, .int .i64 0, .int .i64 0, .int .i64 0, .int .i64 0, .int .i64 0, .int .i64 0, .int .i64 0, .int .i64 0, .int .i64 0, .int .i64 0, .int .i64 0, .int .i64 0, .int .i64 0, .int .i64 0, .int .i64 0, .int .i64 0, .int .i64 0, .int .i64 0, .int .i64 0, .int .i64 0, .int .i64 0, .int .i64 0, .int .i64 0, .int .i64 0, .int .i64 0, .int .i64 0, .int .i64 0, .int .i64 0, .int .i64 0, .int .i64 0, .int .i64 0, .int .i64 0, .int .i64 0, .int .i64 0, .int .i64 0, .int .i64 0, .int .i64 0, .int .i64 0, .int .i64 0, .int .i64 0, .int .i64 0, .int .i64 0, .int .i64 0, .int .i64 0, .int .i64 0, .int .i64 0, .int .i64 0, .int .i64 0, .int .i64 0, .int .i64 0, .int .i64 0, .int .i64 0, .int .i64 0, .int .i64 0, .int .i64 0, .int .i64 0, .int .i64 0, .int .i64 0, .int .i64 0, .int .i64 0, .int .i64 0, .int .i64 0, .int .i64 0, .int .i64 0, .int .i64 0, .int .i64 0, .int .i64 0, .int .i64 0, .int .i64 0, .int .i64 0, .int .i64 0, .int .i64 0, .int .i64 0, .int .i64 0, .int .i64 0, .int .i64 0, .int .i64 0, .int .i64 0, .int .i64 0, .int .i64 0, .int .i64 0, .int .i64 0, .int .i64 0, .int .i64 0, .int .i64 0, .int .i64 0, .int .i64 0, .int .i64 0, .int .i64 0, .int .i64 0, .int .i64 0, .int .i64 0, .int .i64 0, .int .i64 0, .int .i64 0, .int .i64 0, .int .i64 0, .int .i64 0, .int .i64 0, .int .i64 0, .int .i64 0, .int .i64 0, .int .i64 0, .int .i64 0, .int .i64 0, .int .i64 0, .int .i64 0, .int .i64 0, .int .i64 0, .int .i64 0, .int .i64 0, .int .i64 0, .int .i64 0, .int .i64 0, .int .i64 0, .int .i64 0, .int .i64 0, .int .i64 0, .int .i64 0, .int .i64 0, .int .i64 0, .int .i64 0, .int .i64 0, .int .i64 0, .int .i64 0, .int .i64 0, .int .i64 0, .int .i64 0, .int .i64 0, .int .i64 0, .int .i64 0, .int .i64 0, .int .i64 0, .int .i64 0, .int .i64 0, .int .i64 0, .int .i64 0, .int .i64 0, .int .i64 0, .int .i64 0, .int .i64 0, .int .i64 0, .int .i64 0, .int .i64 0, .nilSlice]) := by kernel_rfl
theorem tk171 : tk Tryz.prog 171 = .struct [(0, 9), (1, 169), (257, 168)] := by kernel_rfl
theorem sz171 : sz Tryz.prog 171 = some 258 := by kernel_rfl
theorem byt171 : byt Tryz.prog 171 = some 2088 := by kernel_rfl
theorem zero171 : zeroT Tryz.prog 171 = some (.agg [.str ⟨#[]⟩, .int .i64 0, .int .i64 0, .int .i64 0, .int .i64 0, .int .i64 0, .int .i64 0, .int .i64 0, .int .i64 0, .int .i64 0, .int .i64 0, .int .i64 0, .int .i64 0, .int .i64 0, .int .i64 0, .int .i64 0, .int .i64 0, .int .i64 0, .int .i64 0, .int .i64 0, .int .i64 0, .int .i64 0, .int .i64 0, .int .i64 0, .int .i64 0, .int .i64 0, .int .i64 0, .int .i64 0, .int .i64 0, .int .i64 0, .int .i64 0, .int .i64 0, .int .i64 0, .int .i64 0, .int .i64 0, .int .i64 0, .int .i64 0, .int .i64 0, .int .i64 0, .int .i64 0, .int .i64 0, .int .i64 0, .int .i64 0, .int .i64 0, .int .i64 0, .int .i64 0, .int .i64 0, .int .i64 0, .int .i64 0, .int .i64 0, .int .i64 0, .int .i64 0, .int .i64 0, .int .i64 0, .int .i64 0, .int .i64 0, .int .i64 0, .int .i64 0, .int .i64 0, .int .i64 0, .int .i64 0, .int .i64 0, .int .i64 0, .int .i64 0, .int .i64 0, .int .i64 0, .int .i64 0, .int .i64 0, .int .i64 0, .int .i64 0, .int .i64 0, .int .i64 0, .int .i64 0, .int .i64 0, .int .i64 0, .int .i64 0, .int .i64 0, .int .i64 0, .int .i64 0, .int .i64 0, .int .i64 0, .int .i64 0, .int .i64 0, .int .i64 0, .int .i64 0, .int .i64 0, .int .i64 0, .int .i64 0, .int .i64 0, .int .i64 0, .int .i64 0, .int .i64 0, .int .i64 0, .int .i64 0, .int .i64 0, .int .i64 0, .int .i64 0, .int .i64 0, .int .i64 0, .int .i64 0, .int .i64 0, .int .i64 0, .int .i64 0, .int .i64 0, .int .i64 0, .int .i64 0, .int .i64 0, .int .i64 0, .int .i64 0, .int .i64 0, .int .i64 0, .int .i64 0, .int .i64 0, .int .i64 0, .int .i64 0, .int .i64 0, .int .i64 0, .int .i64 0, .int .i64 0, .int .i64 0, .int .i64 0, .int .i64 0, .int .i64 0, .int .i64 0, .int .i64 0, .int .i64 0, .int .i64 0, .int .i64 0, .int .i64 0, .int .i64 0, .int .i64 0, .int .i64 0, .int .i64 0, .int .i64 0, .int .i64 0, .int .i64 0, .int .i64 0, .int .i64 0, .int .i64 0, .int .i64 0, .int .i64 0, .int .i64 0, .int .i64 0, .int .i64 0, .int .i64 0, .int .i64 0, .int .i64 0, .int .i64 0, .int .i64 0, .int .i64 0, .int .i64 0, .int .i64 0, .int .i64 0, .int .i64 0, .int .i64 0, .int .i64 0, .int .i64 0, .int .i64 0, .int .i64 0, .int .i64 0, .int .i64 0, .int .i64 0, .int .i64 0, .int .i64 0, .int .i64 0, .int .i64 0, .int .i64 0, .int .i64 0, .int .i64 0, .int .i64 0, .int .i64 0, .int .i64 0, .int .i64 0, .int .i64 0, .int .i64 0, .int .i64 0, .int .i64 0, .int .i64 0, .int .i64 0, .int .i64 0, .int .i64 0, .int .i64 0, .int .i64 0, .int .i64 0, .int .i64 0, .int .i64 0, .int .i64 0, .int .i64 0, .int .i64 0, .int .i64 0, .int .i64 0, .int .i64 0, .int .i64 0, .int .i64 0, .int .i64 0, .int .i64 0, .int .i64 0, .int .i64 0, .int .i64 0, .int .i64 0, .int .i64 0, .int .i64 0, .int .i64 0, .int .i64 0, .int .i64 0, .int .i64 0, .int .i64 0, .int .i64 0, .int .i64 0, .int .i64 0, .int .i64 0, .int .i64 0, .int .i64 0, .int .i64 0, .int .i64 0, .int .i64 0, .int .i64 0, .int .i64 0, .int .i64 0, .int .i64 0, .int .i64 0, .int .i64 0, .int .i64 0, .int .i64 0, .int .i64 0, .int .i64 0, .int .i64 0, .int .i64 0, .int .i64 0, .int .i64 0, .int .i64 0, .int .i64 0, .int .i64 0, .int .i64 0, .int .i64 0, .int .i64 0, .int .i64 0, .int .i64 0, .int .i64 0, .int .i64 0, .int .i64 0, .int .i64 0, .int .i64 0, .int .i64 0, .int .i64 0, .int .i64 0, .int .i64 0, .int .i64 0, .int .i64 0, .int .i64 0, .int .i64 0, .int .i64 0, .int .i64 0, .int .i64 0, .int .i64 0, .int .i64 0, .int .i64 0, .nilSlice]) := by kernel_rfl
theorem tk172 : tk Tryz.prog 172 = .func := by kernel_rfl
theorem sz172 : sz Tryz.prog 172 = some 1 := by kernel_rfl
theorem byt172 : byt Tryz.prog 172 = some 8 := by kernel_rfl
theorem zero172 : zeroT Tryz.prog 172 = some (.nilFunc) := by kernel_rfl
theorem tk173 : tk Tryz.prog 173 = .func := by kernel_rfl
theorem sz173 : sz Tryz.prog 173 = some 1 := by kernel_rfl
theorem byt173 : byt Tryz.prog 173 = some 8 := by kernel_rfl
theorem zero173 : zeroT Tryz.prog 173 = some (.nilFunc) := by kernel_rfl
theorem tk174 : tk Tryz.prog 174 = .func := by kernel_rfl
theorem sz174 : sz Tryz.prog 174 = some 1 := by kernel_rfl
theorem byt174 : byt Tryz.prog 174 = some 8 := by kernel_rfl
theorem zero174 : zeroT Tryz.prog 174 = some (.nilFunc) := by kernel_rfl
theorem tk175 : tk Tryz.prog 175 = .func := by kernel_rfl
theorem sz175 : sz Tryz.prog 175 = some 1 := by kernel_rfl
theorem byt175 : byt Tryz.prog 175 = some 8 := by kernel_rfl
theorem zero175 : zeroT Tryz.prog 175 = some (.nilFunc) := by kernel_rfl
theorem tk176 : tk Tryz.prog 176 = .func := by kernel_rfl
theorem sz176 : sz Tryz.prog 176 = some 1 := by kernel_rfl
theorem byt176 : byt Tryz.prog 176 = some 8 := by kernel_rfl
theorem zero176 : zeroT Tryz.prog 176 = some (.nilFunc) := by kernel_rfl
theorem tk177 : tk Tryz.prog 177 = .struct [(0, 17), (1, 17), (2, 17), (3, 9)] := by kernel_rfl
theorem sz177 : sz Tryz.prog 177 = some 4 := by kernel_rfl
theorem byt177 : byt Tryz.prog 177 = some 40 := by kernel_rfl
theorem zero177 : zeroT Tryz.prog 177 = some (.agg [.nilPtr, .nilPtr, .nilPtr, .str ⟨#[]⟩]) := by kernel_rfl
theorem tk178 : tk Tryz.prog 178 = .struct [(0, 17), (1, 17), (2, 17), (3, 9)] := by kernel_rfl
theorem sz178 : sz Tryz.prog 178 = some 4 := by kernel_rfl
theorem byt178 : byt Tryz.prog 178 = some 40 := by kernel_rfl
theorem zero178 : zeroT Tryz.prog 178 = some (.agg [.nilPtr, .nilPtr, .nilPtr, .str ⟨#[]⟩]) := by kernel_rfl
theorem tk179 : tk Tryz.prog 179 = .array 0 16 := by kernel_rfl
theorem sz179 : sz Tryz.prog 179 = some 0 := by kernel_rfl
theorem byt179 : byt Tryz.prog 179 = some 0 := by kernel_rfl
theorem zero179 : zeroT Tryz.prog 179 = some (.agg []) := by kernel_rfl
theorem tk180 : tk Tryz.prog 180 = .struct [(0, 179)] := by kernel_rfl
theorem sz180 : sz Tryz.prog 180 = some 0 := by kernel_rfl
theorem byt180 : byt Tryz.prog 180 = some 0 := by kernel_rfl
theorem zero180 : zeroT Tryz.prog 180 = some (.agg []) := by kernel_rfl
theorem tk181 : tk Tryz.prog 181 = .struct [(0, 179)] := by kernel_rfl
theorem sz181 : sz Tryz.prog 181 = some 0 := by kernel_rfl
theorem byt181 : byt Tryz.prog 181 = some 0 := by kernel_rfl
theorem zero181 : zeroT Tryz.prog 181 = some (.agg []) := by kernel_rfl
theorem tk182 : tk Tryz.prog 182 = .func := by kernel_rfl
theorem sz182 : sz Tryz.prog 182 = some 1 := by kernel_rfl
theorem byt182 : byt Tryz.prog 182 = some 8 := by kernel_rfl
theorem zero182 : zeroT Tryz.prog 182 = some (.nilFunc) := by kernel_rfl
theorem tk183 : tk Tryz.prog 183 = .int .u8 := by kernel_rfl
theorem sz183 : sz Tryz.prog 183 = some 1 := by kernel_rfl
theorem byt183 : byt Tryz.prog 183 = some 1 := by kernel_rfl
theorem zero183 : zeroT Tryz.prog 183 = some (.int .u8 0) := by kernel_rfl
theorem tk184 : tk Tryz.prog 184 = .int .u8 := by kernel_rfl
theorem sz184 : sz Tryz.prog 184 = some 1 := by kernel_rfl
theorem byt184 : byt Tryz.prog 184 = some 1 := by kernel_rfl
theorem zero184 : zeroT Tryz.prog 184 = some (.int .u8 0) := by kernel_rfl
theorem tk185 : tk Tryz.prog 185 = .func := by kernel_rfl
theorem sz185 : sz Tryz.prog 185 = some 1 := by kernel_rfl
theorem byt185 : byt Tryz.prog 185 = some 8 := by kernel_rfl
theorem zero185 : zeroT Tryz.prog 185 = some (.nilFunc) := by kernel_rfl
theorem tk186 : tk Tryz.prog 186 = .int .i32 := by kernel_rfl
theorem sz186 : sz Tryz.prog 186 = some 1 := by kernel_rfl
theorem byt186 : byt Tryz.prog 186 = some 4 := by kernel_rfl
theorem zero186 : zeroT Tryz.prog 186 = some (.int .i32 0) := by kernel_rfl
theorem tk187 : tk Tryz.prog 187 = .int .i32 := by kernel_rfl
theorem sz187 : sz Tryz.prog 187 = some 1 := by kernel_rfl
theorem byt187 : byt Tryz.prog 187 = some 4 := by kernel_rfl
theorem zero187 : zeroT Tryz.prog 187 = some (.int .i32 0) := by kernel_rfl
theorem tk188 : tk Tryz.prog 188 = .struct [(0, 12), (1, 12), (2, 77), (3, 183), (4, 5), (5, 5), (6, 184), (7, 185), (8, 140), (9, 186), (10, 187)] := by kernel_rfl
theorem sz188 : sz Tryz.prog 188 = some 11 := by kernel_rfl
theorem byt188 : byt Tryz.prog 188 = some 48 := by kernel_rfl
theorem zero188 : zeroT Tryz.prog 188 = some (.agg [.int .u64 0, .int .u64 0, .int .u32 0, .int .u8 0, .int .u8 0, .int .u8 0, .int .u8 0, .nilFunc, .nilPtr, .int .i32 0, .int .i32 0]) := by kernel_rfl
theorem tk189 : tk Tryz.prog 189 = .struct [(0, 12), (1, 12), (2, 77), (3, 183), (4, 5), (5, 5), (6, 184), (7, 185), (8, 140), (9, 186), (10, 187)] := by kernel_rfl
theorem sz189 : sz Tryz.prog 189 = some 11 := by kernel_rfl
theorem byt189 : byt Tryz.prog 189 = some 48 := by kernel_rfl
theorem zero189 : zeroT Tryz.prog 189 = some (.agg [.int .u64 0, .int .u64 0, .int .u32 0, .int .u8 0, .int .u8 0, .int .u8 0, .int .u8 0, .nilFunc, .nilPtr, .int .i32 0, .int .i32 0]) := by kernel_rfl
theorem tk190 : tk Tryz.prog 190 = .func := by kernel_rfl
theorem sz190 : sz Tryz.prog 190 = some 1 := by kernel_rfl
theorem byt190 : byt Tryz.prog 190 = some 8 := by kernel_rfl
theorem zero190 : zeroT Tryz.prog 190 = some (.nilFunc) := by kernel_rfl
theorem tk191 : tk Tryz.prog 191 = .ptr 193 := by kernel_rfl
theorem sz191 : sz Tryz.prog 191 = some 1 := by kernel_rfl
theorem byt191 : byt Tryz.prog 191 = some 8 := by kernel_rfl
theorem zero191 : zeroT Tryz.prog 191 = some (.nilPtr) := by kernel_rfl
theorem tk192 : tk Tryz.prog 192 = .struct [(0, 191), (1, 56)] := by kernel_rfl
theorem sz192 : sz Tryz.prog 192 = some 2 := by kernel_rfl
theorem byt192 : byt Tryz.prog 192 = some 32 := by kernel_rfl
theorem zero192 : zeroT Tryz.prog 192 = some (.agg [.nilPtr, .nilSlice]) := by kernel_rfl
theorem tk193 : tk Tryz.prog 193 = .struct [(0, 191), (1, 56)] := by kernel_rfl
theorem sz193 : sz Tryz.prog 193 = some 2 := by kernel_rfl
theorem byt193 : byt Tryz.prog 193 = some 32 := by kernel_rfl
theorem zero193 : zeroT Tryz.prog 193 = some (.agg [.nilPtr, .nilSlice]) := by kernel_rfl
theorem tk194 : tk Tryz.prog 194 = .func := by kernel_rfl
theorem sz194 : sz Tryz.prog 194 = some 1 := by kernel_rfl
theorem byt194 : byt Tryz.prog 194 = some 8 := by kernel_rfl
theorem zero194 : zeroT Tryz.prog 194 = some (.nilFunc) := by kernel_rfl
theorem tk196 : tk Tryz.prog 196 = .func := by kernel_rfl
theorem sz196 : sz Tryz.prog 196 = some 1 := by kernel_rfl
theorem byt196 : byt Tryz.prog 196 = some 8 := by kernel_rfl
theorem zero196 : zeroT Tryz.prog 196 = some (.nilFunc) := by kernel_rfl
theorem tk197 : tk Tryz.prog 197 = .func := by kernel_rfl
theorem sz197 : sz Tryz.prog 197 = some 1 := by kernel_rfl
theorem byt197 : byt Tryz.prog 197 = some 8 := by kernel_rfl
theorem zero197 : zeroT Tryz.prog 197 = some (.nilFunc) := by kernel_rfl
theorem tk198 : tk Tryz.prog 198 = .func := by kernel_rfl
theorem sz198 : sz Tryz.prog 198 = some 1 := by kernel_rfl
theorem byt198 : byt Tryz.prog 198 = some 8 := by kernel_rfl
theorem zero198 : zeroT Tryz.prog 198 = some (.nilFunc) := by kernel_rfl
theorem tk199 : tk Tryz.prog 199 = .slice 5 := by kernel_rfl
theorem sz199 : sz Tryz.prog 199 = some 1 := by kernel_rfl
theorem byt199 : byt Tryz.prog 199 = some 24 := by kernel_rfl
theorem zero199 : zeroT Tryz.prog 199 = some (.nilSlice) := by kernel_rfl
theorem tk200 : tk Tryz.prog 200 = .ptr 199 := by kernel_rfl
theorem sz200 : sz Tryz.prog 200 = some 1 := by kernel_rfl
theorem byt200 : byt Tryz.prog 200 = some 8 := by kernel_rfl
theorem zero200 : zeroT Tryz.prog 200 = some (.nilPtr) := by kernel_rfl
theorem tk201 : tk Tryz.prog 201 = .iface := by kernel_rfl
theorem sz201 : sz Tryz.prog 201 = some 1 := by kernel_rfl
theorem byt201 : byt Tryz.prog 201 = some 16 := by kernel_rfl
theorem zero201 : zeroT Tryz.prog 201 = some (.nilIface) := by kernel_rfl
theorem tk202 : tk Tryz.prog 202 = .iface := by kernel_rfl
theorem sz202 : sz Tryz.prog 202 = some 1 := by kernel_rfl
theorem byt202 : byt Tryz.prog 202 = some 16 := by kernel_rfl
theorem zero202 : zeroT Tryz.prog 202 = some (.nilIface) := by kernel_rfl
theorem tk203 : tk Tryz.prog 203 = .iface := by kernel_rfl
theorem sz203 : sz Tryz.prog 203 = some 1 := by kernel_rfl
theorem byt203 : byt Tryz.prog 203 = some 16 := by kernel_rfl
theorem zero203 : zeroT Tryz.prog 203 = some (.nilIface) := by kernel_rfl
theorem tk204 : tk Tryz.prog 204 = .iface := by kernel_rfl
theorem sz204 : sz Tryz.prog 204 = some 1 := by kernel_rfl
theorem byt204 : byt Tryz.prog 204 = some 16 := by kernel_rfl
theorem zero204 : zeroT Tryz.prog 204 = some (.nilIface) := by kernel_rfl
theorem tk205 : tk Tryz.prog 205 = .func := by kernel_rfl
theorem sz205 : sz Tryz.prog 205 = some 1 := by kernel_rfl
theorem byt205 : byt Tryz.prog 205 = some 8 := by kernel_rfl
theorem zero205 : zeroT Tryz.prog 205 = some (.nilFunc) := by kernel_rfl
theorem tk207 : tk Tryz.prog 207 = .func := by kernel_rfl
theorem sz207 : sz Tryz.prog 207 = some 1 := by kernel_rfl
theorem byt207 : byt Tryz.prog 207 = some 8 := by kernel_rfl
theorem zero207 : zeroT Tryz.prog 207 = some (.nilFunc) := by kernel_rfl
theorem tk209 : tk Tryz.prog 209 = .struct [(0, 202)] := by kernel_rfl
theorem sz209 : sz Tryz.prog 209 = some 1 := by kernel_rfl
theorem byt209 : byt Tryz.prog 209 = some 16 := by kernel_rfl
theorem zero209 : zeroT Tryz.prog 209 = some (.agg [.nilIface]) := by kernel_rfl
theorem tk210 : tk Tryz.prog 210 = .struct [(0, 202)] := by kernel_rfl
theorem sz210 : sz Tryz.prog 210 = some 1 := by kernel_rfl
theorem byt210 : byt Tryz.prog 210 = some 16 := by kernel_rfl
theorem zero210 : zeroT Tryz.prog 210 = some (.agg [.nilIface]) := by kernel_rfl
theorem tk211 : tk Tryz.prog 211 = .func := by kernel_rfl
theorem sz211 : sz Tryz.prog 211 = some 1 := by kernel_rfl
theorem byt211 : byt Tryz.prog 211 = some 8 := by kernel_rfl
theorem zero211 : zeroT Tryz.prog 211 = some (.nilFunc) := by kernel_rfl
theorem tk212 : tk Tryz.prog 212 = .func := by kernel_rfl
theorem sz212 : sz Tryz.prog 212 = some 1 := by kernel_rfl
theorem byt212 : byt Tryz.prog 212 = some 8 := by kernel_rfl
theorem zero212 : zeroT Tryz.prog 212 = some (.nilFunc) := by kernel_rfl
theorem tk214 : tk Tryz.prog 214 = .func := by kernel_rfl
theorem sz214 : sz Tryz.prog 214 = some 1 := by kernel_rfl
theorem byt214 : byt Tryz.prog 214 = some 8 := by kernel_rfl
theorem zero214 : zeroT Tryz.prog 214 = some (.nilFunc) := by kernel_rfl
attribute [simp] tk1 sz1 byt1 zero1 tk2 sz2 byt2 zero2 tk3 sz3 byt3 zero3 tk4 sz4 byt4 zero4 tk5 sz5 byt5 zero5 tk6 sz6 byt6 zero6 tk7 sz7 byt7 zero7 tk8 sz8 byt8 zero8 tk9 sz9 byt9 zero9 tk10 sz10 byt10 zero10 tk11 sz11 byt11 zero11 tk12 sz12 byt12 zero12 tk13 sz13 byt13 zero13 tk14 sz14 byt14 zero14 tk15 sz15 byt15 zero15 tk16 sz16 byt16 zero16 tk17 sz17 byt17 zero17 tk18 sz18 byt18 zero18 tk19 sz19 byt19 zero19 tk20 sz20 byt20 zero20 tk21 sz21 byt21 zero21 tk22 sz22 byt22 zero22 tk23 sz23 byt23 zero23 tk25 sz25 byt25 zero25 tk26 sz26 byt26 zero26 tk27 sz27 byt27 zero27 tk28 sz28 byt28 zero28 tk29 sz29 byt29 zero29 tk30 sz30 byt30 zero30 tk31 sz31 byt31 zero31 tk32 sz32 byt32 zero32 tk33 sz33 byt33 zero33 tk34 sz34 byt34 zero34 tk35 sz35 byt35 zero35 tk36 sz36 byt36 zero36 tk37 sz37 byt37 zero37 tk38 sz38 byt38 zero38 tk39 sz39 byt39 zero39 tk40 sz40 byt40 zero40 tk41 sz41 byt41 zero41 tk42 sz42 byt42 zero42 tk43 sz43 byt43 zero43 tk44 sz44 byt44 zero44 tk45 sz45 byt45 zero45 tk46 sz46 byt46 zero46 tk48 sz48 byt48 zero48 tk49 sz49 byt49 zero49 tk50 sz50 byt50 zero50 tk52 sz52 byt52 zero52 tk53 sz53 byt53 zero53 tk55 sz55 byt55 zero55 tk56 sz56 byt56 zero56 tk57 sz57 byt57 zero57 tk58 sz58 byt58 zero58 tk59 sz59 byt59 zero59 tk60 sz60 byt60 zero60 tk61 sz61 byt61 zero61 tk62 sz62 byt62 zero62 tk64 sz64 byt64 zero64 tk65 sz65 byt65 zero65 tk66 sz66 byt66 zero66 tk67 sz67 byt67 zero67 tk68 sz68 byt68 zero68 tk69 sz69 byt69 zero69 tk70 sz70 byt70 zero70 tk71 sz71 byt71 zero71 tk72 sz72 byt72 zero72 tk73 sz73 byt73 zero73 tk74 sz74 byt74 zero74 tk75 sz75 byt75 zero75 tk76 sz76 byt76 zero76 tk77 sz77 byt77 zero77 tk78 sz78 byt78 zero78 tk79 sz79 byt79 zero79 tk80 sz80 byt80 zero80 tk81 sz81 byt81 zero81 tk82 sz82 byt82 zero82 tk83 sz83 byt83 zero83 tk84 sz84 byt84 zero84 tk85 sz85 byt85 zero85 tk86 sz86 byt86 zero86 tk87 sz87 byt87 zero87 tk88 sz88 byt88 zero88 tk89 sz89 byt89 zero89 tk90 sz90 byt90 zero90 tk91 sz91 byt91 zero91 tk92 sz92 byt92 zero92 tk93 sz93 byt93 zero93 tk95 sz95 byt95 zero95 tk96 sz96 byt96 zero96 tk98 sz98 byt98 zero98 tk99 sz99 byt99 zero99 tk100 sz100 byt100 zero100 tk101 sz101 byt101 zero101 tk102 sz102 byt102 zero102 tk103 sz103 byt103 zero103 tk104 sz104 byt104 zero104 tk105 sz105 byt105 zero105 tk107 sz107 byt107 zero107 tk108 sz108 byt108 zero108 tk109 sz109 byt109 zero109 tk110 sz110 byt110 zero110 tk111 sz111 byt111 zero111 tk112 sz112 byt112 zero112 tk113 sz113 byt113 zero113 tk114 sz114 byt114 zero114 tk115 sz115 byt115 zero115 tk116 sz116 byt116 zero116 tk117 sz117 byt117 zero117 tk118 sz118 byt118 zero118 tk119 sz119 byt119 zero119 tk120 sz120 byt120 zero120 tk121 sz121 byt121 zero121 tk122 sz122 byt122 zero122 tk123 sz123 byt123 zero123 tk124 sz124 byt124 zero124 tk125 sz125 byt125 zero125 tk126 sz126 byt126 zero126 tk127 sz127 byt127 zero127 tk128 sz128 byt128 zero128 tk129 sz129 byt129 zero129 tk130 sz130 byt130 zero130 tk131 sz131 byt131 zero131 tk132 sz132 byt132 zero132 tk133 sz133 byt133 zero133 tk134 sz134 byt134 zero134 tk135 sz135 byt135 zero135 tk136 sz136 byt136 zero136 tk137 sz137 byt137 zero137 tk138 sz138 byt138 zero138 tk139 sz139 byt139 zero139 tk140 sz140 byt140 zero140 tk141 sz141 byt141 zero141 tk142 sz142 byt142 zero142 tk143 sz143 byt143 zero143 tk144 sz144 byt144 zero144 tk145 sz145 byt145 zero145 tk146 sz146 byt146 zero146 tk147 sz147 byt147 zero147 tk148 sz148 byt148 zero148 tk149 sz149 byt149 zero149 tk150 sz150 byt150 zero150 tk151 sz151 byt151 zero151 tk152 sz152 byt152 zero152 tk153 sz153 byt153 zero153 tk154 sz154 byt154 zero154 tk155 sz155 byt155 zero155 tk156 sz156 byt156 zero156 tk157 sz157 byt157 zero157 tk158 sz158 byt158 zero158 tk159 sz159 byt159 zero159 tk160 sz160 byt160 zero160 tk161 sz161 byt161 zero161 tk162 sz162 byt162 zero162 tk163 sz163 byt163 zero163 tk164 sz164 byt164 zero164 tk166 sz166 byt166 zero166 tk167 sz167 byt167 zero167 tk168 sz168 byt168 zero168 tk169 sz169 byt169 zero169 tk170 sz170 byt170 zero170 tk171 sz171 byt171 zero171 tk172 sz172 byt172 zero172 tk173 sz173 byt173 zero173 tk174 sz174 byt174 zero174 tk175 sz175 byt175 zero175 tk176 sz176 byt176 zero176 tk177 sz177 byt177 zero177 tk178 sz178 byt178 zero178 tk179 sz179 byt179 zero179 tk180 sz180 byt180 zero180 tk181 sz181 byt181 zero181 tk182 sz182 byt182 zero182 tk183 sz183 byt183 zero183 tk184 sz184 byt184 zero184 tk185 sz185 byt185 zero185 tk186 sz186 byt186 zero186 tk187 sz187 byt187 zero187 tk188 sz188 byt188 zero188 tk189 sz189 byt189 zero189 tk190 sz190 byt190 zero190 tk191 sz191 byt191 zero191 tk192 sz192 byt192 zero192 tk193 sz193 byt193 zero193 tk194 sz194 byt194 zero194 tk196 sz196 byt196 zero196 tk197 sz197 byt197 zero197 tk198 sz198 byt198 zero198 tk199 sz199 byt199 zero199 tk200 sz200 byt200 zero200 tk201 sz201 byt201 zero201 tk202 sz202 byt202 zero202 tk203 sz203 byt203 zero203 tk204 sz204 byt204 zero204 tk205 sz205 byt205 zero205 tk207 sz207 byt207 zero207 tk209 sz209 byt209 zero209 tk210 sz210 byt210 zero210 tk211 sz211 byt211 zero211 tk212 sz212 byt212 zero212 tk214 sz214 byt214 zero214
end Go.Proofs.YtlcbhhmnfmeoeaaGreatDoor

/-
  VAI, part H1: slices.Insert: what the rows hold behind it.
-/
namespace Vai
open Go
open Go.RowKit (Below)
variable [Gl]

theorem PRE.ins {m : M} {w : World} {s cap i : Nat} {es new : List D} {cur news : Array Value} (hc : PRE m w s es cur) (hcs : cur.size = cap * s) (hn : EV m w s new news) (hi : i ≤ es.length) (hroom : es.length + new.length ≤ cap) :
    PRE m w s (es.take i ++ new ++ es.drop i) (splice (splice cur.toList ((i + new.length) * s) ((cur.toList.drop (i * s)).take ((es.length - i) * s))) (i * s) news.toList).toArray ∧
    (splice (splice cur.toList ((i + new.length) * s) ((cur.toList.drop (i * s)).take ((es.length - i) * s))) (i * s) news.toList).length = cap * s := by
  have hcl : cur.toList.length = cap * s := by simpa using hcs
  have hle : es.length * s ≤ cap * s := Nat.mul_le_mul_right _ (by omega)
  have hile : i * s ≤ es.length * s := Nat.mul_le_mul_right _ hi
  have hsub : (es.length - i) * s = es.length * s - i * s := Nat.mul_sub_right_distrib ..
  have htl : ((cur.toList.drop (i * s)).take ((es.length - i) * s)).length = (es.length - i) * s := by
    rw [List.length_take, List.length_drop, hcl]
    omega
  have hsum : (i + new.length) * s + (es.length - i) * s ≤ cap * s := by
    rw [← Nat.add_mul]
    exact Nat.mul_le_mul_right _ (by omega)
  have h1 := splice_get cur.toList ((i + new.length) * s) ((cur.toList.drop (i * s)).take ((es.length - i) * s)) (by rw [htl, hcl]; exact hsum)
  have hl1 := (h1 0).2
  have hnl : news.toList.length = new.length * s := by simpa using hn.1
  have hsum2 : i * s + new.length * s ≤ cap * s := by
    rw [← Nat.add_mul]
    exact Nat.mul_le_mul_right _ (by omega)
  have h2 := splice_get (splice cur.toList ((i + new.length) * s) ((cur.toList.drop (i * s)).take ((es.length - i) * s))) (i * s) news.toList (by rw [hnl, hl1, hcl]; exact hsum2)
  refine ⟨⟨fun k d hd => ?_, fun k j d c hd hc' => ?_⟩, by rw [(h2 0).2, hl1, hcl]⟩
  · rcases Nat.lt_or_ge k i with hk | hk
    · rw [List.append_assoc, List.getElem?_append_left (by simp; omega)] at hd
      rw [List.getElem?_take_of_lt hk] at hd
      exact hc.1 k d hd
    · rcases Nat.lt_or_ge k (i + new.length) with hk2 | hk2
      · rw [List.append_assoc, List.getElem?_append_right (by simp; omega), List.getElem?_append_left (by simp; omega)] at hd
        exact hn.2.1 _ d hd
      · rw [List.getElem?_append_right (by simp; omega), List.getElem?_drop] at hd
        exact hc.1 _ d hd
  · have hjs : ∀ {l : List D} {q : Nat}, l[q]? = some d → (∀ (i : Nat) (d : D), l[i]? = some d → d.cells.length = s) → j < s := fun h1 h2 => by
      have := (List.getElem?_eq_some_iff.1 hc').1
      have := h2 _ d h1
      omega
    simp only [List.getElem?_toArray]
    rw [(h2 _).1, (h1 _).1, htl, hnl]
    rcases Nat.lt_or_ge k i with hk | hk
    · rw [List.append_assoc, List.getElem?_append_left (by simp; omega)] at hd
      rw [List.getElem?_take_of_lt hk] at hd
      have hj := hjs hd hc.1
      obtain ⟨u, hu, hv, ho⟩ := hc.2 k j d c hd hc'
      have := idx_lt (s := s) hk hj
      have e3 : (i + new.length) * s = i * s + new.length * s := Nat.add_mul ..
      refine ⟨u, ?_, hv, ho⟩
      rw [if_neg (by omega), if_neg (by omega)]
      simpa using hu
    · rcases Nat.lt_or_ge k (i + new.length) with hk2 | hk2
      · rw [List.append_assoc, List.getElem?_append_right (by simp; omega), List.getElem?_append_left (by simp; omega)] at hd
        have hml : min i es.length = i := by omega
        simp only [List.length_take, hml] at hd
        have hj := hjs hd hn.2.1
        obtain ⟨u, hu, hv, ho⟩ := hn.2.2 _ j d c hd hc'
        have hlt := idx_lt (s := s) (i := k - i) (n := new.length) (by omega) hj
        have hle2 : i * s ≤ k * s := Nat.mul_le_mul_right _ hk
        have heq : k * s + j - i * s = (k - i) * s + j := by rw [Nat.mul_sub_right_distrib]; omega
        refine ⟨u, ?_, hv, ho⟩
        rw [if_pos ⟨by omega, by omega⟩, heq]
        simpa using hu
      · rw [List.getElem?_append_right (by simp; omega), List.getElem?_drop] at hd
        have hml : min i es.length = i := by omega
        simp only [List.length_append, List.length_take, hml] at hd
        have hj := hjs hd hc.1
        obtain ⟨u, hu, hv, ho⟩ := hc.2 _ j d c hd hc'
        have hkl : i + (k - (i + new.length)) < es.length := (List.getElem?_eq_some_iff.1 hd).1
        have hle2 : (i + new.length) * s ≤ k * s := Nat.mul_le_mul_right _ hk2
        have e3 : (i + new.length) * s = i * s + new.length * s := Nat.add_mul ..
        have heq : k * s + j - (i + new.length) * s = (k - (i + new.length)) * s + j := by rw [Nat.mul_sub_right_distrib]; omega
        have hlt := idx_lt (s := s) (i := k - (i + new.length)) (n := es.length - i) (by omega) hj
        refine ⟨u, ?_, hv, ho⟩
        rw [if_neg (by omega), if_pos ⟨by omega, by omega⟩, heq, List.getElem?_take_of_lt hlt, List.getElem?_drop]
        have : i * s + ((k - (i + new.length)) * s + j) = (i + (k - (i + new.length))) * s + j := by rw [Nat.add_mul]; omega
        rw [this]
        simpa using hu


section
variable {P : Program}
theorem copy_rows {t u ty e bt : TypeId} {s k g o dl dc sl sc : Nat} {w : World} {ad : Addr} {cur : Array Value} {cs : List Value} (hk : P.underlying t = some (.slice e)) (hs : sz P e = some s) (hmin : Nat.min sl dl = k) (hl : cs.length = k * s)
    (hsrc : ∀ j v, cs[j]? = some v → w.cell? (ad.add j) = some v) (hb : w.heap[g]? = some (.cells cur bt (0, 0))) (hle : o + cs.length ≤ cur.size) (h1 : ∀ v ∈ cs, v.oneCell' = true) :
    (Builtin.copy_ #[t, u] ty #[.slice (some ⟨g, o, none⟩) dl dc, .slice (some ad) sl sc]).run P w = .ok (goInt k) (w.setRow g (splice cur.toList o cs).toArray) := by
  have h2 := run_loadCells_list (P := P) w ad cs hsrc
  rw [hl] at h2
  have h3 := run_storeCells_at P g o bt cs 0 cur w hb (by simpa using hle) h1
  have h4 : (storeCells ⟨g, o, none⟩ cs).run P w = .ok () (w.setRow g (splice cur.toList o cs).toArray) := by simpa [splice] using h3
  simp [Builtin.copy_, Builtin.lenOf, Builtin.firstCells, run_underlying hk, run_sz hs, hmin, h2, h4]
end
theorem EV.one {m : M} {w : World} {s : Nat} {es : List D} {vs : Array Value} (h : EV m w s es vs) (h0 : 0 < s) (v : Value) (hv : v ∈ vs.toList) : v.oneCell' = true := by
  obtain ⟨k, hk⟩ := List.getElem?_of_mem hv
  have hk : vs[k]? = some v := by simpa using hk
  have hklt : k < es.length * s := by rw [← h.1]; exact (Array.getElem?_eq_some_iff.1 hk).1
  have hi1 : k / s < es.length := (Nat.div_lt_iff_lt_mul h0).2 hklt
  have hj1 : k % s < s := Nat.mod_lt _ h0
  have hdl := h.2.1 _ _ (List.getElem?_eq_getElem hi1)
  have hj2 : k % s < es[k / s].cells.length := by rw [hdl]; exact hj1
  obtain ⟨v', hv', _, ho⟩ := h.2.2 _ _ _ _ (List.getElem?_eq_getElem hi1) (List.getElem?_eq_getElem hj2)
  have : k / s * s + k % s = k := by rw [Nat.mul_comm]; exact Nat.div_add_mod k s
  rw [this, hk] at hv'
  cases hv'
  exact ho
theorem PRE.one {m : M} {w : World} {s : Nat} {es : List D} {vs : Array Value} (h : PRE m w s es vs) (h0 : 0 < s) {k : Nat} (hklt : k < es.length * s) {v : Value} (hk : vs[k]? = some v) : v.oneCell' = true := by
  have hi1 : k / s < es.length := (Nat.div_lt_iff_lt_mul h0).2 hklt
  have hj1 : k % s < s := Nat.mod_lt _ h0
  have hdl := h.1 _ _ (List.getElem?_eq_getElem hi1)
  have hj2 : k % s < es[k / s].cells.length := by rw [hdl]; exact hj1
  obtain ⟨v', hv', _, ho⟩ := h.2 _ _ _ _ (List.getElem?_eq_getElem hi1) (List.getElem?_eq_getElem hj2)
  have : k / s * s + k % s = k := by rw [Nat.mul_comm]; exact Nat.div_add_mod k s
  rw [this, hk] at hv'
  cases hv'
  exact ho

theorem PRE.evTake {m : M} {w : World} {s i cap : Nat} {es : List D} {cur : Array Value} (h : PRE m w s es cur) (hcs : cur.size = cap * s) (hi : i ≤ es.length) (hc : es.length ≤ cap) : EV m w s (es.take i) (cur.toList.take (i * s)).toArray := by
  have hcl : cur.toList.length = cap * s := by simpa using hcs
  have h1 : i * s ≤ cap * s := Nat.mul_le_mul_right _ (by omega)
  have ht := h.take i
  refine ⟨?_, ht.1, fun k j d c hd hcj => ?_⟩
  · rw [List.size_toArray, List.length_take, List.length_take, hcl]
    have : min i es.length = i := by omega
    rw [this]
    omega
  · obtain ⟨u, hu, hv, ho⟩ := ht.2 k j d c hd hcj
    refine ⟨u, ?_, hv, ho⟩
    have hk : k < i := by have := (List.getElem?_eq_some_iff.1 hd).1; simp at this; omega
    have hj : j < s := by have := (List.getElem?_eq_some_iff.1 hcj).1; rw [ht.1 k d hd] at this; exact this
    have := idx_lt (s := s) hk hj
    rw [List.getElem?_toArray, List.getElem?_take_of_lt (by omega)]
    simpa using hu
theorem PRE.evDrop {m : M} {w : World} {s i cap : Nat} {es : List D} {cur : Array Value} (h : PRE m w s es cur) (hcs : cur.size = cap * s) (hi : i ≤ es.length) (hc : es.length ≤ cap) : EV m w s (es.drop i) ((cur.toList.drop (i * s)).take ((es.length - i) * s)).toArray := by
  have hcl : cur.toList.length = cap * s := by simpa using hcs
  have h1 : es.length * s ≤ cap * s := Nat.mul_le_mul_right _ (by omega)
  have h2 : i * s ≤ es.length * s := Nat.mul_le_mul_right _ hi
  have hsub : (es.length - i) * s = es.length * s - i * s := Nat.mul_sub_right_distrib ..
  refine ⟨?_, fun k d hd => ?_, fun k j d c hd hcj => ?_⟩
  · rw [List.size_toArray, List.length_take, List.length_drop, List.length_drop, hcl]
    omega
  · rw [List.getElem?_drop] at hd
    exact h.1 _ d hd
  · rw [List.getElem?_drop] at hd
    obtain ⟨u, hu, hv, ho⟩ := h.2 _ j d c hd hcj
    refine ⟨u, ?_, hv, ho⟩
    have hk : i + k < es.length := (List.getElem?_eq_some_iff.1 hd).1
    have hj : j < s := by have := (List.getElem?_eq_some_iff.1 hcj).1; rw [h.1 _ d hd] at this; exact this
    have := idx_lt (s := s) (i := k) (n := es.length - i) (by omega) hj
    rw [List.getElem?_toArray, List.getElem?_take_of_lt (by omega), List.getElem?_drop]
    have : i * s + (k * s + j) = (i + k) * s + j := by rw [Nat.add_mul]; omega
    rw [this]
    simpa using hu
theorem splice_at {α : Type} (a b c : List α) : splice (a ++ b) a.length c = a ++ c ++ b.drop c.length := by
  simp [splice, List.drop_append]
theorem splice_at' {α : Type} {a b c l : List α} {n : Nat} (hl : l = a ++ b) (hn : n = a.length) : splice l n c = a ++ c ++ b.drop c.length := by
  subst hl hn
  exact splice_at a b c
end Vai

namespace Go.Proofs.YtlcbhhmnfmeoeaaGreatDoor
open Vai
open Go.RowKit
set_option maxHeartbeats 4000000
set_option maxRecDepth 100000
theorem ins_shift {P : Program} (hf40 : P.funcs[40]? = some Tryz.f40) (mixed : P.follows .mixedOrders = true) (h31 : P.underlying 31 = some (.slice 34)) (h3 : P.underlying 3 = some (.int .i64)) (h4 : P.underlying 4 = some .bool) (z34 : ∀ w, (Go.sizeOf 34).run P w = .ok 4 w) (b n c i vb voff m vc : Nat) (w W1 W2 : World) (hi : i < n) (hm : 0 < m) (hroom : n + m ≤ c) (hc63 : c ≤ 9223372036854775807)
    (hov : ∀ lb cb, (callFunc 54 #[.slice (some ⟨vb, voff, none⟩) m vc, .slice (some ⟨b, (i + m) * 4, none⟩) lb cb]).run P w = .ok (.value (.bool false)) w)
    (hcp1 : ∀ ty dc sc, (Builtin.copy_ #[31, 31] ty #[.slice (some ⟨b, (i + m) * 4, none⟩) (n + m - (i + m)) dc, .slice (some ⟨b, i * 4, none⟩) (n + m - i) sc]).run P w.drew = .ok (goInt (n - i : Nat)) W1)
    (hcp2 : ∀ ty dc, (Builtin.copy_ #[31, 31] ty #[.slice (some ⟨b, i * 4, none⟩) (n + m - i) dc, .slice (some ⟨vb, voff, none⟩) m vc]).run P W1 = .ok (goInt m) W2) :
    Calls P 40 #[.slice (some ⟨b, 0, none⟩) n c, .int .i64 i, .slice (some ⟨vb, voff, none⟩) m vc] w fun e w' => e = .returned (.slice (some ⟨b, 0, none⟩) (n + m) c) ∧ w' = W2 := by
  have u31 := run_underlying h31
  have u3 := run_underlying h3
  have u4 := run_underlying h4
  have hz1 : ¬ ((m : Int) = 0) := by omega
  have hz2 : ¬ ((i : Int) = (n : Int)) := by omega
  have hw1 : IntKind.i64.wrap ((i : Int) + (m : Int)) = (i : Int) + (m : Int) := by rw [IntKind.wrap_i64]; omega
  have hb1 : (0 : Int) ≤ (i : Int) + (m : Int) := by omega
  have hin : i ≤ n := by omega
  have htn : ((i : Int) + (m : Int)).toNat = i + m := by omega
  have hb2 : ¬ (c = i + m) := by omega
  have hb3 : (i : Int) ≤ (n : Int) + (m : Int) := by omega
  have hb4 : ¬ (c = i) := by omega
  go_enter hf40, Tryz.ntmps40
  go_wp2_with (simp only [hov])
  go_region_law_o (refine step_copy_runI rfl _ _ 31 31 rfl _ _ (by simp [Act.eval, Act.put]) (by simp [Act.eval, Act.put]) (hcp1 _ _ _) ?_)
  go_wp2_with (at_builtin; refine wpList_copy_runI _ rfl _ _ 31 31 rfl _ _ rfl rfl (hcp2 _ _) ?_)
  go_ret
  exact ⟨rfl, rfl⟩
theorem ins_grow {P : Program} (hf40 : P.funcs[40]? = some Tryz.f40) (mixed : P.follows .mixedOrders = true) (h31 : P.underlying 31 = some (.slice 34)) (h3 : P.underlying 3 = some (.int .i64)) (h4 : P.underlying 4 = some .bool) (z34 : ∀ w, (Go.sizeOf 34).run P w = .ok 4 w)
    (b n c i vb voff m vc g G : Nat) (w W1 W2 W3 : World) (hi : i < n) (hm : 0 < m) (hnc : n ≤ c) (hroom : c < n + m) (hc63 : c + m ≤ 9223372036854775807) (hG : n + m ≤ G) (hG63 : G ≤ 9223372036854775807)
    (hrz : ∀ ty, (Builtin.append_ #[31, 3] ty #[.slice (some ⟨b, 0, none⟩) i c, .int .i64 ((n : Int) + (m : Int) - (i : Int))]).run P w = .ok (.slice (some ⟨g, 0, none⟩) (n + m) G) W1)
    (hcp1 : ∀ ty dc, (Builtin.copy_ #[31, 31] ty #[.slice (some ⟨g, i * 4, none⟩) (n + m - i) dc, .slice (some ⟨vb, voff, none⟩) m vc]).run P W1 = .ok (goInt m) W2)
    (hcp2 : ∀ ty dc sc, (Builtin.copy_ #[31, 31] ty #[.slice (some ⟨g, (i + m) * 4, none⟩) (n + m - (i + m)) dc, .slice (some ⟨b, i * 4, none⟩) (n - i) sc]).run P W2.drew = .ok (goInt (n - i : Nat)) W3) :
    Calls P 40 #[.slice (some ⟨b, 0, none⟩) n c, .int .i64 i, .slice (some ⟨vb, voff, none⟩) m vc] w fun e w' => e = .returned (.slice (some ⟨g, 0, none⟩) (n + m) G) ∧ w' = W3 := by
  have u31 := run_underlying h31
  have u3 := run_underlying h3
  have u4 := run_underlying h4
  have hz1 : ¬ ((m : Int) = 0) := by omega
  have hz2 : ¬ ((i : Int) = (n : Int)) := by omega
  have hz3 : (c : Int) < (n : Int) + (m : Int) := by omega
  have hw1 : IntKind.i64.wrap ((i : Int) + (m : Int)) = (i : Int) + (m : Int) := by rw [IntKind.wrap_i64]; omega
  have hb1 : (0 : Int) ≤ (i : Int) + (m : Int) := by omega
  have hin : i ≤ n := by omega
  have htn : ((i : Int) + (m : Int)).toNat = i + m := by omega
  have hGi : ¬ (G = i) := by omega
  have hGim : ¬ (G = i + m) := by omega
  have hci : ¬ (c = i) := by omega
  have hb3 : (i : Int) ≤ (n : Int) := by omega
  go_enter hf40, Tryz.ntmps40
  go_wp2_with (first
    | (at_builtin; refine Lib.wpList_append_run _ rfl _ _ _ _ rfl _ _ rfl rfl _ _ (hrz _) ?_)
    | (at_builtin; refine wpList_copy_runI _ rfl _ _ 31 31 rfl _ _ rfl rfl (hcp1 _ _) ?_))
  go_region_law_o (refine step_copy_runI rfl _ _ 31 31 rfl (.slice (some ⟨g, (i + m) * 4, none⟩) (n + m - (i + m)) (G - (i + m))) (.slice (some ⟨b, i * 4, none⟩) (n - i) (c - i)) (by simp [Act.eval, Act.put]) (by simp [Act.eval, Act.put]) (hcp2 _ _ _) ?_)
  go_wp2
  go_ret
  exact ⟨rfl, rfl⟩
theorem ins_end {P : Program} (hf40 : P.funcs[40]? = some Tryz.f40) (mixed : P.follows .mixedOrders = true) (h31 : P.underlying 31 = some (.slice 34)) (h3 : P.underlying 3 = some (.int .i64)) (h4 : P.underlying 4 = some .bool) (z34 : ∀ w, (Go.sizeOf 34).run P w = .ok 4 w)
    (base : Option Addr) (n c : Nat) (vb voff m vc : Nat) (r : Value) (w W1 : World) (hnc : n ≤ c) (hm : 0 < m) (hnil : base = none → n = 0 ∧ c = 0) (hc63 : c ≤ 9223372036854775807)
    (hap : (Builtin.append_ #[31, 31] 31 #[.slice base n c, .slice (some ⟨vb, voff, none⟩) m vc]).run P w = .ok r W1) :
    Calls P 40 #[.slice base n c, .int .i64 n, .slice (some ⟨vb, voff, none⟩) m vc] w fun e w' => e = .returned r ∧ w' = W1 := by
  have u31 := run_underlying h31
  have u3 := run_underlying h3
  have u4 := run_underlying h4
  have hz1 : ¬ ((m : Int) = 0) := by omega
  go_enter hf40, Tryz.ntmps40
  cases base with
  | none =>
    obtain ⟨rfl, rfl⟩ := hnil rfl
    go_wp2_with (at_builtin; refine Lib.wpList_append_run _ rfl _ _ _ _ rfl _ _ rfl rfl _ _ hap ?_)
    all_goals (go_ret; exact ⟨rfl, rfl⟩)
  | some a =>
    obtain ⟨ab, ao, asp⟩ := a
    go_wp2_with (at_builtin; refine Lib.wpList_append_run _ rfl _ _ _ _ rfl _ _ rfl rfl _ _ hap ?_)
    all_goals (go_ret; exact ⟨rfl, rfl⟩)
end Go.Proofs.YtlcbhhmnfmeoeaaGreatDoor

namespace Go.Proofs.YtlcbhhmnfmeoeaaGreatDoor
open Vai
open Go.RowKit
set_option maxHeartbeats 0
/-- slices.Insert: an object that moves. -/
noncomputable def insA : ACall := fun _ args h => match args with
  | [a, .t (.int .i64 i), .row id2 j m top2] => if 0 < m then match a with
      | .t .nilSlice => if i = 0 then appendD Tryz.prog h 31 (.t .nilSlice) (.row id2 j m top2) else none
      | .row id 0 n top => if n = top ∧ 0 ≤ i ∧ i ≤ n ∧ id ≠ id2 ∧ j = 0 then
          (if i = n then appendD Tryz.prog h 31 (.row id 0 n top) (.row id2 j m top2)
           else match h.els id top, sourceD h (.row id2 j m top2) with
            | some (bt, s, es), some new => if bt = 34 ∧ s = 4 ∧ new.all (fun d => d.cells.length == 4) = true ∧ (n + m) * 48 ≤ 140737488355328 then
               some (.row h.next 0 (n + m) (n + m), (h.del id).push (.row 34 4 (es.take i.toNat ++ new ++ es.drop i.toNat)))
              else none
            | _, _ => none)
        else none
      | _ => none
    else none
  | _ => none
theorem insA_ok [Gl] : ∀ (args : List D) (h : H) (d : D) (h' : H) (m : M) (w : World) (vs : Array Value), HR m w h → AV m w h.next args vs → insA 40 args h = some (d, h') → Calls Tryz.prog 40 vs w fun e w' => ∃ v m', e = .returned v ∧ Eff m w h d v w' h' m' := by
  intro args h d h' m w vs hr hv hc
  have mixed : Tryz.prog.follows .mixedOrders = true := by kernel_rfl
  have s34 : sz Tryz.prog 34 = some 4 := sz34
  have z34 : ∀ w, (Go.sizeOf 34).run Tryz.prog w = .ok 4 w := fun w => run_sz s34 w
  have h31 := Tryz.underlying31
  have h3 := Tryz.underlying3
  have h4 := Tryz.underlying4
  unfold insA at hc
  split at hc
  · rename_i a i id2 j k top2
    split at hc
    · rename_i hk0
      obtain ⟨hl, hv⟩ := hv
      obtain ⟨v0, v1, v2, rfl⟩ : ∃ v0 v1 v2, vs = #[v0, v1, v2] := ⟨vs[0]'(by simp at hl; omega), vs[1]'(by simp at hl; omega), vs[2]'(by simp at hl; omega), by
        refine Array.ext (by simp at hl ⊢; omega) fun i h1 h2 => ?_
        match i, (show i < 3 by simpa using h2) with
        | 0, _ => rfl
        | 1, _ => rfl
        | 2, _ => rfl⟩
      obtain ⟨q0, r0⟩ := hv 0 _ v0 rfl rfl
      obtain ⟨q1, r1⟩ := hv 1 _ v1 rfl rfl
      obtain ⟨q2, r2⟩ := hv 2 _ v2 rfl rfl
      cases q1 with
      | t q1 =>
      cases q1
      -- what is laid in
      have key : ∀ e2, h.els id2 top2 = some e2 → ∃ x2 ad2 cap2, m id2 = some x2 ∧ v2 = .slice (some ad2) k cap2 ∧ k ≤ cap2 ∧ (0 < cap2 → ad2 = ⟨x2.blk, j * x2.s, none⟩) ∧ ∃ cur2 : Array Value, w.heap[x2.blk]? = some (.cells cur2 e2.1 (0, 0)) ∧ PRE m w e2.2.1 e2.2.2 cur2 ∧ cur2.size = x2.cap * e2.2.1 ∧ e2.2.2.length ≤ x2.cap ∧ j + k ≤ e2.2.2.length ∧ 0 < e2.2.1 := by
        rintro ⟨bt, s, es⟩ he
        obtain ⟨x, hx', htop, hxs, hor, hob, hlen⟩ := els_at hr he
        obtain ⟨o1, o2, o3, o4, o5, cur, hcb, hcs, hds, hcells⟩ := hor
        cases q2 with
        | row hone hp =>
        obtain ⟨_, hp'⟩ := hp x hx'
        obtain ⟨hit, ad, cap, rfl, hlc, hcx, had⟩ := hp' htop
        exact ⟨x, ad, cap, hx', rfl, hlc, had, cur, hcb, ⟨hds, hcells⟩, hcs, by simp only; omega, by simp only; omega, o2⟩
      split at hc
      · split at hc
        · rename_i hi0
          subst hi0
          cases q0 with
          | t q0 =>
          cases q0
          have hels : ∃ e2, h.els id2 top2 = some e2 := by
            cases he : h.els id2 top2 with
            | some e2 => exact ⟨e2, rfl⟩
            | none => simp [-H.els, appendD, sourceD, he] at hc
          obtain ⟨e2, he2⟩ := hels
          obtain ⟨x2, ad2, cap2, hx2, rfl, hk2, had2, cur2, hcb2, hp2, hcs2, hl2, hjk2, hs20⟩ := key e2 he2
          obtain ⟨ab, ao, asp⟩ := ad2
          have hsp := had2 (by omega)
          cases hsp
          obtain ⟨v, w', m', hap, hE⟩ := appendD_sound (P := Tryz.prog) (ty := 31) (u := 31) hr (VR.t (TR.nilSlice (w := w) (S := m.blocks))) q2 r0 (.inl ⟨_, h31⟩) hc
          exact (ins_end Tryz.func40 mixed h31 h3 h4 z34 none 0 0 _ _ k cap2 v w w' (Nat.le_refl _) hk0 (fun _ => ⟨rfl, rfl⟩) (by omega) hap).mono fun e w'' ⟨he, hw⟩ => ⟨v, m', he, hw ▸ hE⟩
        · cases hc
      · rename_i id n top
        split at hc
        · rename_i hcond
          obtain ⟨rfl, hi0, hin, hne, rfl⟩ := hcond
          have hels : (∃ e1, h.els id n = some e1) ∧ ∃ e2, h.els id2 top2 = some e2 := by
            cases he1 : h.els id n with
            | none => cases hsrc : sourceD h (.row id2 0 k top2) <;> split at hc <;> simp [-H.els, appendD, he1, hsrc] at hc
            | some e1 =>
            cases he : h.els id2 top2 with
            | some e2 => exact ⟨⟨e1, rfl⟩, e2, rfl⟩
            | none => split at hc <;> simp [-H.els, appendD, sourceD, he, he1] at hc
          obtain ⟨⟨⟨bt, s, es⟩, he1⟩, ⟨bt2, sz2, es2⟩, he2⟩ := hels
          obtain ⟨x2, ad2, cap2, hx2, rfl, hk2, had2, cur2, hcb2, hp2, hcs2, hl2, hjk2, hs20⟩ := key _ he2
          simp only at hcb2 hp2 hcs2 hl2 hjk2 hs20
          obtain ⟨ab, ao, asp⟩ := ad2
          have hsp := had2 (by omega)
          cases hsp
          obtain ⟨x, hx', htop, hxs, hor, hob, hlen⟩ := els_at hr he1
          have hold := hr.below id _ hob
          obtain ⟨o1, o2, o3, o4, o5, cur, hcb, hcs, hds, hcells⟩ := hor
          have hbb : x2.blk ≠ x.blk := fun e => hne (hr.inj id id2 x x2 hx' hx2 e.symm)
          cases q0 with
          | row hone hp =>
          obtain ⟨_, hp'⟩ := hp x hx'
          obtain ⟨hit, ad, cap, rfl, hlc, hcx, had⟩ := hp' htop
          have hdom := (hr.dom id x hx').2
          have hmx : x.cap ≤ 9223372036854775807 := by simpa [maxLen] using o5
          split at hc
          · rename_i hi
            have hi' : i = (n : Int) := hi
            subst hi'
            obtain ⟨v, w', m', hap, hE⟩ := appendD_sound (P := Tryz.prog) (ty := 31) (u := 31) hr (VR.row hone hp) q2 r0 (.inl ⟨_, h31⟩) hc
            exact (ins_end Tryz.func40 mixed h31 h3 h4 z34 (some ad) n cap _ _ k cap2 v w w' hlc hk0 (fun h => by cases h) (by omega) hap).mono fun e w'' ⟨he, hw⟩ => ⟨v, m', he, hw ▸ hE⟩
          · rename_i hi
            rw [he1] at hc
            split at hc
            · rename_i bt' s' es' new hq1 hsrc
              cases hq1
              split at hc
              · rename_i hcond2
                obtain ⟨rfl, rfl, hall, hbig⟩ := hcond2
                simp only [Option.some.injEq, Prod.mk.injEq] at hc
                obtain ⟨rfl, rfl⟩ := hc
                obtain ⟨iN, rfl⟩ : ∃ iN : Nat, i = iN := ⟨i.toNat, by omega⟩
                have hiN : iN < n := by omega
                have e48 : iN ≤ es.length := by omega
                rw [Int.toNat_natCast]
                have s3 := (sourceD_sound (P := Tryz.prog) hr q2 hsrc (by decide) hall).2.2
                have hnew : new = es2.take k := by
                  simp only [sourceD, he2, if_pos hjk2, List.drop_zero, Option.some.injEq] at hsrc
                  exact hsrc.symm
                have hnl : new.length = k := by rw [hnew, List.length_take]; omega
                have he4 : sz2 = 4 := by
                  have hlt : 0 < es2.length := by omega
                  have h1 := hp2.1 0 _ (List.getElem?_eq_getElem hlt)
                  rw [List.all_eq_true] at hall
                  have h2 := hall es2[0] (by rw [hnew]; exact List.mem_of_getElem? (i := 0) (by simp [hk0, hlt]))
                  simp only [beq_iff_eq] at h2
                  omega
                rw [he4] at hp2 hcs2
                obtain ⟨news, hnn⟩ : ∃ news, news = (cur2.toList.take (k * 4)).toArray := ⟨_, rfl⟩
                have hev : EV m w 4 new news := by
                  rw [hnew, hnn]
                  exact hp2.evTake hcs2 (by omega) hl2
                have hpre : PRE m w 4 es cur := ⟨hds, hcells⟩
                have hcapn : n ≤ x.cap := by omega
                have hlen' : (es.take iN ++ new ++ es.drop iN).length = n + k := by simp; omega
                have hnews : news.toList.length = k * 4 := by rw [Array.length_toList, hev.1, hnl]
                have hvs : ∀ (W : World), W.heap[x2.blk]? = w.heap[x2.blk]? → ∀ (j : Nat) (u : Value), news.toList[j]? = some u → W.cell? ((⟨x2.blk, 0 * x2.s, none⟩ : Addr).add j) = some u := by
                  intro W hW j u hj
                  rw [lit_add, Nat.zero_mul, Nat.zero_add, cell_of_row W x2.blk _ cur2 bt2 (0, 0) (by rw [hW]; exact hcb2)]
                  rw [hnn] at hj
                  simp only [List.getElem?_take] at hj
                  split at hj
                  · simpa using hj
                  · cases hj
                have hone1 := fun v hv => hev.one (by decide) v hv
                obtain ⟨tail, htl⟩ : ∃ tail, tail = (cur.toList.drop (iN * 4)).take ((es.length - iN) * 4) := ⟨_, rfl⟩
                have htev := hpre.evDrop hcs e48 (by omega)
                rw [← htl] at htev
                have hone2 := fun v hv => htev.one (by decide) v hv
                have htlen : tail.length = (n - iN) * 4 := by
                  have := htev.1
                  simp only [List.size_toArray, List.length_drop] at this
                  rw [this, show es.length - iN = n - iN by omega]
                have hts : ∀ (W : World), W.heap[x.blk]? = some (.cells cur 34 (0, 0)) → ∀ (j : Nat) (u : Value), tail[j]? = some u → W.cell? ((⟨x.blk, iN * 4, none⟩ : Addr).add j) = some u := by
                  intro W hW j u hj
                  rw [lit_add, cell_of_row W x.blk _ cur 34 (0, 0) hW]
                  rw [htl, List.getElem?_take] at hj
                  split at hj
                  · rw [List.getElem?_drop] at hj; simpa using hj
                  · cases hj
                have hmin1 : Nat.min (n + k - iN) (n + k - (iN + k)) = n - iN := by
                  have := Nat.min_def (n := n + k - iN) (m := n + k - (iN + k))
                  rw [show Nat.min (n + k - iN) (n + k - (iN + k)) = min (n + k - iN) (n + k - (iN + k)) from rfl, this]
                  split <;> omega
                have hmin2 : Nat.min k (n + k - iN) = k := by
                  have := Nat.min_def (n := k) (m := n + k - iN)
                  rw [show Nat.min k (n + k - iN) = min k (n + k - iN) from rfl, this]
                  split <;> omega
                have hcl : cur.toList.length = cur.size := by simp
                by_cases hroom : n + k ≤ cap
                · have hadx := had (by omega)
                  rw [Nat.zero_mul] at hadx
                  subst hadx
                  have hb1 : w.drew.heap[x.blk]? = some (.cells cur 34 (0, 0)) := hcb
                  have hcp1 : ∀ ty dc sc, (Builtin.copy_ #[31, 31] ty #[.slice (some ⟨x.blk, (iN + k) * 4, none⟩) (n + k - (iN + k)) dc, .slice (some ⟨x.blk, iN * 4, none⟩) (n + k - iN) sc]).run Tryz.prog w.drew = .ok (goInt (n - iN : Nat)) (w.drew.setRow x.blk (splice cur.toList ((iN + k) * 4) tail).toArray) := fun ty dc sc =>
                    copy_rows h31 s34 hmin1 htlen (hts w.drew hcb) hb1 (by omega) hone2
                  have hb2 := setRow_heap w.drew x.blk cur (splice cur.toList ((iN + k) * 4) tail).toArray 34 _ hb1
                  have hspl : (splice cur.toList ((iN + k) * 4) tail).length = cur.size := by
                    rw [(splice_get cur.toList ((iN + k) * 4) tail (by rw [hcl]; omega) 0).2, hcl]
                  have hcp2 : ∀ ty dc, (Builtin.copy_ #[31, 31] ty #[.slice (some ⟨x.blk, iN * 4, none⟩) (n + k - iN) dc, .slice (some ⟨x2.blk, 0 * x2.s, none⟩) k cap2]).run Tryz.prog (w.drew.setRow x.blk (splice cur.toList ((iN + k) * 4) tail).toArray) = .ok (goInt k) ((w.drew.setRow x.blk (splice cur.toList ((iN + k) * 4) tail).toArray).setRow x.blk (splice (splice cur.toList ((iN + k) * 4) tail) (iN * 4) news.toList).toArray) := fun ty dc =>
                    copy_rows h31 s34 hmin2 hnews (hvs _ (setRow_other' w.drew x.blk _ _ hbb)) hb2 (by show _ ≤ (splice cur.toList ((iN + k) * 4) tail).length; rw [hspl]; omega) hone1
                  have hov : ∀ lb cb, (callFunc 54 #[.slice (some ⟨x2.blk, 0 * x2.s, none⟩) k cap2, .slice (some ⟨x.blk, (iN + k) * 4, none⟩) lb cb]).run Tryz.prog w = .ok (.value (.bool false)) w := fun lb cb => by
                    rw [run_callFunc_extern Tryz.func54 (by kernel_rfl) (by kernel_rfl) (by kernel_rfl) (e := Extern.SlicesOverlaps.overlaps #[31, 31] #[4]) (by kernel_rfl),
                      Lib.run_overlaps_apart w 31 4 34 h31 4 z34 ⟨x2.blk, 0 * x2.s, none⟩ ⟨x.blk, (iN + k) * 4, none⟩ k cap2 lb cb hbb bt2 34 cur2.size cur.size (by simp [World.shape?, hcb2]) (by simp [World.shape?, hcb]) (by omega) (by simp [World.frozen?, hcb2]) (by simp [World.frozen?, hcb2])]
                    rfl
                  refine (ins_shift Tryz.func40 mixed h31 h3 h4 z34 x.blk n cap iN x2.blk (0 * x2.s) k cap2 w _ _ hiN hk0 hroom (by omega) hov hcp1 hcp2).mono fun e w' ⟨he, hw⟩ => ?_
                  subst hw
                  obtain ⟨p1, p2⟩ := hpre.ins hcs hev e48 (by omega)
                  rw [hnl, ← htl] at p1 p2
                  have hold' : es.all (D.refsB h.next) = true := hold
                  have hrefs : (es.take iN ++ new ++ es.drop iN).all (D.refsB h.next) = true := all_append (all_append (all_take hold') s3) (List.all_eq_true.2 fun d hd => List.all_eq_true.1 hold' d (List.mem_of_mem_drop hd))
                  obtain ⟨t1, t2⟩ := hr.move (w' := (w.drew.setRow x.blk (splice cur.toList ((iN + k) * 4) tail).toArray).setRow x.blk (splice (splice cur.toList ((iN + k) * 4) tail) (iN * 4) news.toList).toArray) (x' := ⟨x.blk, n + k, 4, x.cap⟩) (o' := .row 34 4 (es.take iN ++ new ++ es.drop iN)) (o := .row 34 4 es) hx' rfl
                    rfl rfl rfl (by simp only [World.setRow, Array.size_modify]; exact Nat.le_refl _) (fun q hq hne => (setRow_other' _ x.blk q _ hne).trans (setRow_other' _ x.blk q _ hne))
                    (fun hext => ⟨rfl, by decide, hlen'.symm, by simp only; omega, o5, _, setRow_heap _ x.blk _ _ 34 _ hb2, by rw [List.size_toArray, p2], (p1.ext hext hrefs).1, (p1.ext hext hrefs).2⟩) hrefs
                  refine ⟨_, _, he, t1, ?_, t2, by simp [D.refsB, H.push, H.del], by simp [H.push, H.del], rfl⟩
                  refine .row rfl fun y hy => ?_
                  rw [M.upd_same] at hy
                  obtain rfl := Option.some.inj hy
                  exact ⟨Nat.le_refl _, fun _ => ⟨by omega, _, cap, rfl, hroom, by omega, fun _ => by simp⟩⟩
                · have hadx := had (by omega)
                  rw [Nat.zero_mul] at hadx
                  subst hadx
                  obtain ⟨i0, zv, hi0', hzv, hzo⟩ := zeroT_some (P := Tryz.prog) zero34
                  obtain ⟨i1, hi1, his⟩ := sz_some s34
                  rw [hi0'] at hi1
                  obtain rfl := Option.some.inj hi1
                  obtain ⟨i1, hi1, hib⟩ := byt_some byt34
                  rw [hi0'] at hi1
                  obtain rfl := Option.some.inj hi1
                  have zl : zv.cells.size = 4 := by
                    have := (ofVal_cv (m := m) (w := w) hzo).1
                    rw [← this]; rfl
                  obtain ⟨olds, hod⟩ : ∃ olds, olds = cur.toList.take (iN * 4) := ⟨_, rfl⟩
                  have hoev := hpre.evTake hcs e48 (by omega)
                  rw [← hod] at hoev
                  have hol : olds.length = iN * 4 := by
                    have := hoev.1
                    simp only [List.size_toArray, List.length_take] at this
                    rw [this, show min iN es.length = iN by omega]
                  have hold2 : (Builtin.firstCells i0.size iN (.slice (some ⟨x.blk, 0, none⟩) iN cap)).run Tryz.prog w.drew = .ok olds.toArray w.drew := by
                    have := run_loadCells_list (P := Tryz.prog) w.drew ⟨x.blk, 0, none⟩ olds (fun j v hj => by
                      rw [lit_add, Nat.zero_add, cell_of_row w.drew x.blk _ cur 34 (0, 0) hcb]
                      rw [hod, List.getElem?_take] at hj
                      split at hj
                      · simpa using hj
                      · cases hj)
                    rw [hol] at this
                    simpa [Builtin.firstCells, his] using this
                  obtain ⟨G, hG⟩ : ∃ G, G = grownCap w (n + k) cap 34 := ⟨_, rfl⟩
                  have hge : n + k ≤ G := by rw [hG]; exact grownCap_ge w _ _ _
                  have hGm : G ≤ maxLen := by rw [hG]; exact grownCap_le_maxLen w _ _ 34 (by simp only [maxLen]; omega)
                  have hik : iN + (n + k - iN) = n + k := by omega
                  have hkk : (n : Int) + (k : Int) - (iN : Int) = ((n + k - iN : Nat) : Int) := by omega
                  obtain ⟨A0, hA0⟩ : ∃ A0, A0 = olds.toArray ++ Builtin.zeroCells zv.cells (n + k - iN) ++ Builtin.zeroCells zv.cells (G - (n + k)) := ⟨_, rfl⟩
                  have hA0s : A0.toList.length = G * 4 := by
                    rw [hA0, ← Array.size_eq_length_toList, Array.size_append, Array.size_append, size_zeroCells, size_zeroCells, zl, List.size_toArray, hol]
                    omega
                  have hrz : ∀ ty, (Builtin.append_ #[31, 3] ty #[.slice (some ⟨x.blk, 0, none⟩) iN cap, .int .i64 ((n : Int) + (k : Int) - (iN : Int))]).run Tryz.prog w = .ok (.slice (some ⟨w.heap.size, 0, none⟩) (n + k) G) (w.drew.alloc (.cells A0 34)) := fun ty => by
                    have h := Lib.run_append_grow_zeros w 31 3 ty 34 i0 zv .i64 .i64 h31 h3 hi0' hzv (some ⟨x.blk, 0, none⟩) iN cap olds hold2 (n + k - iN) (by omega) (by omega) (by omega) (by omega) (by rw [hib]; omega) (by rw [hib, hik]; exact growslice_fits (by omega) hbig)
                    rw [hik, ← hG, ← hA0] at h
                    rw [hkk]
                    exact h
                  have hb0 : (w.drew.alloc (.cells A0 34)).heap[w.heap.size]? = some (.cells A0 34 (0, 0)) := heap_alloc_new w.drew _
                  have hxlt : x.blk < w.heap.size := hr.lt hx'
                  have hx2lt : x2.blk < w.heap.size := hr.lt hx2
                  have hbel : Below w.heap.size w (w.drew.alloc (.cells A0 34)) := ((Below.refl _ _).drew).alloc (Nat.le_refl _) _
                  have hcp1 : ∀ ty dc, (Builtin.copy_ #[31, 31] ty #[.slice (some ⟨w.heap.size, iN * 4, none⟩) (n + k - iN) dc, .slice (some ⟨x2.blk, 0 * x2.s, none⟩) k cap2]).run Tryz.prog (w.drew.alloc (.cells A0 34)) = .ok (goInt k) ((w.drew.alloc (.cells A0 34)).setRow w.heap.size (splice A0.toList (iN * 4) news.toList).toArray) := fun ty dc =>
                    copy_rows h31 s34 hmin2 hnews (hvs _ (hbel.block _ hx2lt)) hb0 (by rw [Array.size_eq_length_toList, hA0s]; omega) hone1
                  have hb2 := setRow_heap (w.drew.alloc (.cells A0 34)) w.heap.size A0 (splice A0.toList (iN * 4) news.toList).toArray 34 _ hb0
                  have hL1 : (splice A0.toList (iN * 4) news.toList).length = G * 4 := by
                    rw [(splice_get A0.toList (iN * 4) news.toList (by rw [hA0s]; omega) 0).2, hA0s]
                  have hcp2 : ∀ ty dc sc, (Builtin.copy_ #[31, 31] ty #[.slice (some ⟨w.heap.size, (iN + k) * 4, none⟩) (n + k - (iN + k)) dc, .slice (some ⟨x.blk, iN * 4, none⟩) (n - iN) sc]).run Tryz.prog ((w.drew.alloc (.cells A0 34)).setRow w.heap.size (splice A0.toList (iN * 4) news.toList).toArray).drew = .ok (goInt (n - iN : Nat)) (((w.drew.alloc (.cells A0 34)).setRow w.heap.size (splice A0.toList (iN * 4) news.toList).toArray).drew.setRow w.heap.size (splice (splice A0.toList (iN * 4) news.toList) ((iN + k) * 4) tail).toArray) := fun ty dc sc =>
                    copy_rows h31 s34 (by
                      have := Nat.min_def (n := n - iN) (m := n + k - (iN + k))
                      rw [show Nat.min (n - iN) (n + k - (iN + k)) = min (n - iN) (n + k - (iN + k)) from rfl, this]
                      split <;> omega) htlen (hts _ ((setRow_other' _ w.heap.size x.blk _ (by omega)).trans ((hbel.block _ hxlt).trans hcb))) hb2 (by show _ ≤ (splice A0.toList (iN * 4) news.toList).length; rw [hL1]; omega) hone2
                  have hb3 := setRow_heap ((w.drew.alloc (.cells A0 34)).setRow w.heap.size (splice A0.toList (iN * 4) news.toList).toArray).drew w.heap.size _ (splice (splice A0.toList (iN * 4) news.toList) ((iN + k) * 4) tail).toArray 34 _ hb2
                  have hL2 : (splice (splice A0.toList (iN * 4) news.toList) ((iN + k) * 4) tail).length = G * 4 := by
                    rw [(splice_get _ ((iN + k) * 4) tail (by rw [hL1]; omega) 0).2, hL1]
                  refine (ins_grow Tryz.func40 mixed h31 h3 h4 z34 x.blk n cap iN x2.blk (0 * x2.s) k cap2 w.heap.size G w _ _ _ hiN hk0 hlc (by omega) (by omega) hge (by simpa [maxLen] using hGm) hrz hcp1 hcp2).mono fun e w' ⟨he, hw⟩ => ?_
                  subst hw
                  have hold' : es.all (D.refsB h.next) = true := hold
                  have hrefs : (es.take iN ++ new ++ es.drop iN).all (D.refsB h.next) = true := all_append (all_append (all_take hold') s3) (List.all_eq_true.2 fun d hd => List.all_eq_true.1 hold' d (List.mem_of_mem_drop hd))
                  have hS : ∀ (W : World) (g : Nat) (cs : Array Value), (W.setRow g cs).heap.size = W.heap.size := fun W g cs => by simp [World.setRow]
                  have hbel3 : Below w.heap.size w (((w.drew.alloc (.cells A0 34)).setRow w.heap.size (splice A0.toList (iN * 4) news.toList).toArray).drew.setRow w.heap.size (splice (splice A0.toList (iN * 4) news.toList) ((iN + k) * 4) tail).toArray) :=
                    ⟨hbel.os, hbel.tape, hbel.output, by rw [hS]; show _ ≤ ((w.drew.alloc (.cells A0 34)).setRow w.heap.size (splice A0.toList (iN * 4) news.toList).toArray).heap.size; rw [hS]; exact hbel.size, fun q hq => (setRow_other' _ _ q _ (by omega)).trans ((setRow_other' _ _ q _ (by omega)).trans (hbel.block q hq))⟩
                  obtain ⟨Z, hZ⟩ : ∃ Z, Z = (Builtin.zeroCells zv.cells (n + k - iN)).toList ++ (Builtin.zeroCells zv.cells (G - (n + k))).toList := ⟨_, rfl⟩
                  have hA0l : A0.toList = olds ++ Z := by rw [hA0, hZ]; simp
                  have hL1e := splice_at' (c := news.toList) hA0l hol.symm
                  have hL2e := splice_at' (c := tail) (n := (iN + k) * 4) hL1e (by rw [List.length_append, hol, hnews]; omega)
                  have hsz1 : (olds.toArray ++ news).size = (es.take iN ++ new).length * 4 := by
                    rw [Array.size_append, hoev.1, hev.1, List.length_append, Nat.add_mul]
                  have hfin : PRE m w 4 (es.take iN ++ new ++ es.drop iN) (splice (splice A0.toList (iN * 4) news.toList) ((iN + k) * 4) tail).toArray := by
                    have := ((hoev.pre.cat hoev.1 hev.pre).cat hsz1 htev.pre).append (rest := ((Z.drop news.toList.length).drop tail.length).toArray)
                    have hq : (olds ++ news.toList ++ tail ++ (Z.drop news.toList.length).drop tail.length).toArray = olds.toArray ++ news ++ tail.toArray ++ ((Z.drop news.toList.length).drop tail.length).toArray := by
                      apply Array.toList_inj.1
                      simp
                    rw [hL2e, hq]
                    exact this
                  obtain ⟨d1, d2⟩ := hr.del id
                  have heff := eff_push d1 hbel3 hb3 (Nat.le_refl _) (hfin.ext d2 hrefs) (by decide) (by rw [List.size_toArray, hL2]) hlen' hge hGm hrefs
                  exact ⟨_, _, he, heff.hr, heff.vr, d2.trans heff.ext (Nat.le_refl _), heff.refs, heff.next, heff.marks⟩
              · cases hc
            · cases hc
        · cases hc
      · cases hc
    · cases hc
  · cases hc
end Go.Proofs.YtlcbhhmnfmeoeaaGreatDoor

namespace Go.Proofs.YtlcbhhmnfmeoeaaGreatDoor
open Vai
def md : FuncId → FuncId → Vai.Mode := fun c k => if k == 92 || k == 29 || k == 30 || k == 39 || k == 37 || k == 40 || k == 43 || (c == 12 && (k == 33 || k == 34)) || (c == 14 && k == 36) || ((c == 5 || c == 11) && k == 14) then .keep else .pure
def lits : TypeId → Bool := fun t => t == 38 || t == 73
def hards : FuncId → Nat → Option (List (Nat × Nat)) := fun k i => if k == 12 && i == 8 then some [(2, 0), (3, 0)] else if k == 71 && i == 7 then some [(0, 1), (1, 1), (2, 1), (3, 1)] else if k == 71 && i == 9 then some [(0, 1), (0, 2), (1, 1), (1, 2), (2, 1), (2, 2), (3, 1), (3, 2)] else if k == 71 && i == 10 then some [(0, 1), (0, 2), (0, 3), (1, 1), (1, 2), (1, 3), (2, 1), (2, 2), (2, 3), (3, 1), (3, 2), (3, 3)] else none
noncomputable def cx : Cx := ⟨Tryz.prog, md, lits, hards⟩
/-- strconv.ParseInt(s, 10, 64): what it answers. -/
def parseA : ACall := fun _ args h => match args with
  | [.t (.str s), .t (.int .i64 b), .t (.int .i64 z)] => if b = 10 ∧ z = 64 ∧ s.size ≤ 1000000000 then match Lib.parseIntB 64 s.data.toList with
      | .ok v => some (.tup [.t (.int .i64 v), .t .nilIface], h)
      | _ => some (.tup [.undef, .iface 99 .undef], h)
    else none
  | _ => none
/-- A number's digits, at most so many. -/
def decF : Nat → Nat → List UInt8
  | 0, _ => []
  | f + 1, n => if n < 10 then [UInt8.ofNat (48 + n)] else decF f (n / 10) ++ [UInt8.ofNat (48 + n % 10)]
def itoaF (n : Int) : List UInt8 := if n < 0 then 45 :: decF 20 n.natAbs else decF 20 n.toNat
/-- strconv.FormatInt(n, 10). -/
def fmtA : ACall := fun _ args h => match args with
  | [.t (.int .i64 n), .t (.int .i64 b)] => if b = 10 ∧ -9223372036854775808 ≤ n ∧ n ≤ 9223372036854775807 then some (.t (.str ⟨(itoaF n).toArray⟩), h) else none
  | _ => none
/-- strings.Compare. -/
def cmpA : ACall := fun _ args h => match args with
  | [.t (.str a), .t (.str b)] => some (.t (.int .i64 (Lib.compareBytes a.data.toList b.data.toList)), h)
  | _ => none
noncomputable def prim : FuncId → Option ACall := fun k => if k = 29 then some parseA else if k = 30 then some fmtA else if k = 39 then some cmpA else if k = 40 then some insA else none
theorem cxP (k : FuncId) : (cx.at k).P = Tryz.prog := rfl
theorem cxlit (k : FuncId) (t : TypeId) : (cx.at k).lit t = lits t := rfl
theorem cxmd (k j : FuncId) : (cx.at k).md j = md k j := rfl
theorem lits_def (t : TypeId) : lits t = (t == 38 || t == 73) := rfl
theorem cxP0 : cx.P = Tryz.prog := rfl
theorem cxhard (k : FuncId) (i : Nat) : (cx.at k).hard i = hards k i := rfl
attribute [simp] cxhard hards cxP0 cxP cxlit cxmd lits_def
end Go.Proofs.YtlcbhhmnfmeoeaaGreatDoor

/-
  BY PROGRAM (wip/vai/Gen.lean): the seat's functions.
-/
namespace Go.Proofs.YtlcbhhmnfmeoeaaGreatDoor
open Vai
theorem cb2 : callable Tryz.prog 2 = true := by kernel_rfl
theorem ok2 : okFunc (cx.at 2) Tryz.f2 = true := by kernel_rfl
theorem nd2 : (loopIds (bodyOf Tryz.f2)).Nodup := by decide +kernel
theorem cb3 : callable Tryz.prog 3 = true := by kernel_rfl
theorem ok3 : okFunc (cx.at 3) Tryz.f3 = true := by kernel_rfl
theorem nd3 : (loopIds (bodyOf Tryz.f3)).Nodup := by decide +kernel
theorem cb4 : callable Tryz.prog 4 = true := by kernel_rfl
theorem ok4 : okFunc (cx.at 4) Tryz.f4 = true := by kernel_rfl
theorem nd4 : (loopIds (bodyOf Tryz.f4)).Nodup := by decide +kernel
theorem cb5 : callable Tryz.prog 5 = true := by kernel_rfl
theorem ok5 : okFunc (cx.at 5) Tryz.f5 = true := by kernel_rfl
theorem nd5 : (loopIds (bodyOf Tryz.f5)).Nodup := by decide +kernel
theorem cb6 : callable Tryz.prog 6 = true := by kernel_rfl
theorem ok6 : okFunc (cx.at 6) Tryz.f6 = true := by kernel_rfl
theorem nd6 : (loopIds (bodyOf Tryz.f6)).Nodup := by decide +kernel
theorem cb7 : callable Tryz.prog 7 = true := by kernel_rfl
theorem ok7 : okFunc (cx.at 7) Tryz.f7 = true := by kernel_rfl
theorem nd7 : (loopIds (bodyOf Tryz.f7)).Nodup := by decide +kernel
theorem cb8 : callable Tryz.prog 8 = true := by kernel_rfl
theorem ok8 : okFunc (cx.at 8) Tryz.f8 = true := by kernel_rfl
theorem nd8 : (loopIds (bodyOf Tryz.f8)).Nodup := by decide +kernel
theorem cb9 : callable Tryz.prog 9 = true := by kernel_rfl
theorem ok9 : okFunc (cx.at 9) Tryz.f9 = true := by kernel_rfl
theorem nd9 : (loopIds (bodyOf Tryz.f9)).Nodup := by decide +kernel
theorem cb10 : callable Tryz.prog 10 = true := by kernel_rfl
theorem ok10 : okFunc (cx.at 10) Tryz.f10 = true := by kernel_rfl
theorem nd10 : (loopIds (bodyOf Tryz.f10)).Nodup := by decide +kernel
theorem cb11 : callable Tryz.prog 11 = true := by kernel_rfl
theorem ok11 : okFunc (cx.at 11) Tryz.f11 = true := by kernel_rfl
theorem nd11 : (loopIds (bodyOf Tryz.f11)).Nodup := by decide +kernel
theorem cb12 : callable Tryz.prog 12 = true := by kernel_rfl
theorem ok12 : okFunc (cx.at 12) Tryz.f12 = true := by kernel_rfl
theorem nd12 : (loopIds (bodyOf Tryz.f12)).Nodup := by decide +kernel
theorem cb13 : callable Tryz.prog 13 = true := by kernel_rfl
theorem ok13 : okFunc (cx.at 13) Tryz.f13 = true := by kernel_rfl
theorem nd13 : (loopIds (bodyOf Tryz.f13)).Nodup := by decide +kernel
theorem cb14 : callable Tryz.prog 14 = true := by kernel_rfl
theorem ok14 : okFunc (cx.at 14) Tryz.f14 = true := by kernel_rfl
theorem nd14 : (loopIds (bodyOf Tryz.f14)).Nodup := by decide +kernel
theorem cb15 : callable Tryz.prog 15 = true := by kernel_rfl
theorem ok15 : okFunc (cx.at 15) Tryz.f15 = true := by kernel_rfl
theorem nd15 : (loopIds (bodyOf Tryz.f15)).Nodup := by decide +kernel
theorem cb16 : callable Tryz.prog 16 = true := by kernel_rfl
theorem ok16 : okFunc (cx.at 16) Tryz.f16 = true := by kernel_rfl
theorem nd16 : (loopIds (bodyOf Tryz.f16)).Nodup := by decide +kernel
theorem cb17 : callable Tryz.prog 17 = true := by kernel_rfl
theorem ok17 : okFunc (cx.at 17) Tryz.f17 = true := by kernel_rfl
theorem nd17 : (loopIds (bodyOf Tryz.f17)).Nodup := by decide +kernel
theorem cb18 : callable Tryz.prog 18 = true := by kernel_rfl
theorem ok18 : okFunc (cx.at 18) Tryz.f18 = true := by kernel_rfl
theorem nd18 : (loopIds (bodyOf Tryz.f18)).Nodup := by decide +kernel
theorem cb19 : callable Tryz.prog 19 = true := by kernel_rfl
theorem ok19 : okFunc (cx.at 19) Tryz.f19 = true := by kernel_rfl
theorem nd19 : (loopIds (bodyOf Tryz.f19)).Nodup := by decide +kernel
theorem cb20 : callable Tryz.prog 20 = true := by kernel_rfl
theorem ok20 : okFunc (cx.at 20) Tryz.f20 = true := by kernel_rfl
theorem nd20 : (loopIds (bodyOf Tryz.f20)).Nodup := by decide +kernel
theorem cb21 : callable Tryz.prog 21 = true := by kernel_rfl
theorem ok21 : okFunc (cx.at 21) Tryz.f21 = true := by kernel_rfl
theorem nd21 : (loopIds (bodyOf Tryz.f21)).Nodup := by decide +kernel
theorem cb22 : callable Tryz.prog 22 = true := by kernel_rfl
theorem ok22 : okFunc (cx.at 22) Tryz.f22 = true := by kernel_rfl
theorem nd22 : (loopIds (bodyOf Tryz.f22)).Nodup := by decide +kernel
theorem cb23 : callable Tryz.prog 23 = true := by kernel_rfl
theorem ok23 : okFunc (cx.at 23) Tryz.f23 = true := by kernel_rfl
theorem nd23 : (loopIds (bodyOf Tryz.f23)).Nodup := by decide +kernel
theorem cb24 : callable Tryz.prog 24 = true := by kernel_rfl
theorem ok24 : okFunc (cx.at 24) Tryz.f24 = true := by kernel_rfl
theorem nd24 : (loopIds (bodyOf Tryz.f24)).Nodup := by decide +kernel
theorem cb25 : callable Tryz.prog 25 = true := by kernel_rfl
theorem ok25 : okFunc (cx.at 25) Tryz.f25 = true := by kernel_rfl
theorem nd25 : (loopIds (bodyOf Tryz.f25)).Nodup := by decide +kernel
theorem cb26 : callable Tryz.prog 26 = true := by kernel_rfl
theorem ok26 : okFunc (cx.at 26) Tryz.f26 = true := by kernel_rfl
theorem nd26 : (loopIds (bodyOf Tryz.f26)).Nodup := by decide +kernel
theorem cb27 : callable Tryz.prog 27 = true := by kernel_rfl
theorem ok27 : okFunc (cx.at 27) Tryz.f27 = true := by kernel_rfl
theorem nd27 : (loopIds (bodyOf Tryz.f27)).Nodup := by decide +kernel
theorem cb28 : callable Tryz.prog 28 = true := by kernel_rfl
theorem ok28 : okFunc (cx.at 28) Tryz.f28 = true := by kernel_rfl
theorem nd28 : (loopIds (bodyOf Tryz.f28)).Nodup := by decide +kernel
theorem cb29 : callable Tryz.prog 29 = true := by kernel_rfl
theorem ok29 : okFunc (cx.at 29) Tryz.f29 = true := by kernel_rfl
theorem nd29 : (loopIds (bodyOf Tryz.f29)).Nodup := by decide +kernel
theorem cb30 : callable Tryz.prog 30 = true := by kernel_rfl
theorem ok30 : okFunc (cx.at 30) Tryz.f30 = true := by kernel_rfl
theorem nd30 : (loopIds (bodyOf Tryz.f30)).Nodup := by decide +kernel
theorem cb31 : callable Tryz.prog 31 = true := by kernel_rfl
theorem ok31 : okFunc (cx.at 31) Tryz.f31 = true := by kernel_rfl
theorem nd31 : (loopIds (bodyOf Tryz.f31)).Nodup := by decide +kernel
theorem cb32 : callable Tryz.prog 32 = true := by kernel_rfl
theorem ok32 : okFunc (cx.at 32) Tryz.f32 = true := by kernel_rfl
theorem nd32 : (loopIds (bodyOf Tryz.f32)).Nodup := by decide +kernel
theorem cb33 : callable Tryz.prog 33 = true := by kernel_rfl
theorem ok33 : okFunc (cx.at 33) Tryz.f33 = true := by kernel_rfl
theorem nd33 : (loopIds (bodyOf Tryz.f33)).Nodup := by decide +kernel
theorem cb34 : callable Tryz.prog 34 = true := by kernel_rfl
theorem ok34 : okFunc (cx.at 34) Tryz.f34 = true := by kernel_rfl
theorem nd34 : (loopIds (bodyOf Tryz.f34)).Nodup := by decide +kernel
theorem cb35 : callable Tryz.prog 35 = true := by kernel_rfl
theorem ok35 : okFunc (cx.at 35) Tryz.f35 = true := by kernel_rfl
theorem nd35 : (loopIds (bodyOf Tryz.f35)).Nodup := by decide +kernel
theorem cb36 : callable Tryz.prog 36 = true := by kernel_rfl
theorem ok36 : okFunc (cx.at 36) Tryz.f36 = true := by kernel_rfl
theorem nd36 : (loopIds (bodyOf Tryz.f36)).Nodup := by decide +kernel
theorem cb37 : callable Tryz.prog 37 = true := by kernel_rfl
theorem ok37 : okFunc (cx.at 37) Tryz.f37 = true := by kernel_rfl
theorem nd37 : (loopIds (bodyOf Tryz.f37)).Nodup := by decide +kernel
theorem cb38 : callable Tryz.prog 38 = true := by kernel_rfl
theorem ok38 : okFunc (cx.at 38) Tryz.f38 = true := by kernel_rfl
theorem nd38 : (loopIds (bodyOf Tryz.f38)).Nodup := by decide +kernel
theorem cb39 : callable Tryz.prog 39 = true := by kernel_rfl
theorem ok39 : okFunc (cx.at 39) Tryz.f39 = true := by kernel_rfl
theorem nd39 : (loopIds (bodyOf Tryz.f39)).Nodup := by decide +kernel
theorem cb40 : callable Tryz.prog 40 = true := by kernel_rfl
theorem ok40 : okFunc (cx.at 40) Tryz.f40 = true := by kernel_rfl
theorem nd40 : (loopIds (bodyOf Tryz.f40)).Nodup := by decide +kernel
theorem cb41 : callable Tryz.prog 41 = true := by kernel_rfl
theorem ok41 : okFunc (cx.at 41) Tryz.f41 = true := by kernel_rfl
theorem nd41 : (loopIds (bodyOf Tryz.f41)).Nodup := by decide +kernel
theorem cb42 : callable Tryz.prog 42 = true := by kernel_rfl
theorem ok42 : okFunc (cx.at 42) Tryz.f42 = true := by kernel_rfl
theorem nd42 : (loopIds (bodyOf Tryz.f42)).Nodup := by decide +kernel
theorem cb43 : callable Tryz.prog 43 = true := by kernel_rfl
theorem ok43 : okFunc (cx.at 43) Tryz.f43 = true := by kernel_rfl
theorem nd43 : (loopIds (bodyOf Tryz.f43)).Nodup := by decide +kernel
theorem cb44 : callable Tryz.prog 44 = true := by kernel_rfl
theorem ok44 : okFunc (cx.at 44) Tryz.f44 = true := by kernel_rfl
theorem nd44 : (loopIds (bodyOf Tryz.f44)).Nodup := by decide +kernel
theorem cb45 : callable Tryz.prog 45 = true := by kernel_rfl
theorem ok45 : okFunc (cx.at 45) Tryz.f45 = true := by kernel_rfl
theorem nd45 : (loopIds (bodyOf Tryz.f45)).Nodup := by decide +kernel
theorem cb46 : callable Tryz.prog 46 = true := by kernel_rfl
theorem ok46 : okFunc (cx.at 46) Tryz.f46 = true := by kernel_rfl
theorem nd46 : (loopIds (bodyOf Tryz.f46)).Nodup := by decide +kernel
theorem cb47 : callable Tryz.prog 47 = true := by kernel_rfl
theorem ok47 : okFunc (cx.at 47) Tryz.f47 = true := by kernel_rfl
theorem nd47 : (loopIds (bodyOf Tryz.f47)).Nodup := by decide +kernel
theorem cb48 : callable Tryz.prog 48 = true := by kernel_rfl
theorem ok48 : okFunc (cx.at 48) Tryz.f48 = true := by kernel_rfl
theorem nd48 : (loopIds (bodyOf Tryz.f48)).Nodup := by decide +kernel
theorem cb49 : callable Tryz.prog 49 = true := by kernel_rfl
theorem ok49 : okFunc (cx.at 49) Tryz.f49 = true := by kernel_rfl
theorem nd49 : (loopIds (bodyOf Tryz.f49)).Nodup := by decide +kernel
theorem cb50 : callable Tryz.prog 50 = true := by kernel_rfl
theorem ok50 : okFunc (cx.at 50) Tryz.f50 = true := by kernel_rfl
theorem nd50 : (loopIds (bodyOf Tryz.f50)).Nodup := by decide +kernel
theorem cb51 : callable Tryz.prog 51 = true := by kernel_rfl
theorem ok51 : okFunc (cx.at 51) Tryz.f51 = true := by kernel_rfl
theorem nd51 : (loopIds (bodyOf Tryz.f51)).Nodup := by decide +kernel
theorem cb52 : callable Tryz.prog 52 = true := by kernel_rfl
theorem ok52 : okFunc (cx.at 52) Tryz.f52 = true := by kernel_rfl
theorem nd52 : (loopIds (bodyOf Tryz.f52)).Nodup := by decide +kernel
theorem cb53 : callable Tryz.prog 53 = true := by kernel_rfl
theorem ok53 : okFunc (cx.at 53) Tryz.f53 = true := by kernel_rfl
theorem nd53 : (loopIds (bodyOf Tryz.f53)).Nodup := by decide +kernel
theorem cb55 : callable Tryz.prog 55 = true := by kernel_rfl
theorem ok55 : okFunc (cx.at 55) Tryz.f55 = true := by kernel_rfl
theorem nd55 : (loopIds (bodyOf Tryz.f55)).Nodup := by decide +kernel
theorem cb56 : callable Tryz.prog 56 = true := by kernel_rfl
theorem ok56 : okFunc (cx.at 56) Tryz.f56 = true := by kernel_rfl
theorem nd56 : (loopIds (bodyOf Tryz.f56)).Nodup := by decide +kernel
theorem cb57 : callable Tryz.prog 57 = true := by kernel_rfl
theorem ok57 : okFunc (cx.at 57) Tryz.f57 = true := by kernel_rfl
theorem nd57 : (loopIds (bodyOf Tryz.f57)).Nodup := by decide +kernel
theorem cb58 : callable Tryz.prog 58 = true := by kernel_rfl
theorem ok58 : okFunc (cx.at 58) Tryz.f58 = true := by kernel_rfl
theorem nd58 : (loopIds (bodyOf Tryz.f58)).Nodup := by decide +kernel
theorem cb59 : callable Tryz.prog 59 = true := by kernel_rfl
theorem ok59 : okFunc (cx.at 59) Tryz.f59 = true := by kernel_rfl
theorem nd59 : (loopIds (bodyOf Tryz.f59)).Nodup := by decide +kernel
theorem cb60 : callable Tryz.prog 60 = true := by kernel_rfl
theorem ok60 : okFunc (cx.at 60) Tryz.f60 = true := by kernel_rfl
theorem nd60 : (loopIds (bodyOf Tryz.f60)).Nodup := by decide +kernel
theorem cb61 : callable Tryz.prog 61 = true := by kernel_rfl
theorem ok61 : okFunc (cx.at 61) Tryz.f61 = true := by kernel_rfl
theorem nd61 : (loopIds (bodyOf Tryz.f61)).Nodup := by decide +kernel
theorem cb62 : callable Tryz.prog 62 = true := by kernel_rfl
theorem ok62 : okFunc (cx.at 62) Tryz.f62 = true := by kernel_rfl
theorem nd62 : (loopIds (bodyOf Tryz.f62)).Nodup := by decide +kernel
theorem cb63 : callable Tryz.prog 63 = true := by kernel_rfl
theorem ok63 : okFunc (cx.at 63) Tryz.f63 = true := by kernel_rfl
theorem nd63 : (loopIds (bodyOf Tryz.f63)).Nodup := by decide +kernel
theorem cb64 : callable Tryz.prog 64 = true := by kernel_rfl
theorem ok64 : okFunc (cx.at 64) Tryz.f64 = true := by kernel_rfl
theorem nd64 : (loopIds (bodyOf Tryz.f64)).Nodup := by decide +kernel
theorem cb65 : callable Tryz.prog 65 = true := by kernel_rfl
-- 65 internal/strconv.formatBase10: not in order: [region 7: [(5, 1)]; fits true, region 8: [(5, 1)]; fits true, region 9: [(5, 1)]; fits true, region 10: [(5, 1)]; fits true, region 17: [(5, 1)]; fits true, region 18: [(5, 1)]; fits true, region 23: [(5, 1)]; fits true]
theorem cb66 : callable Tryz.prog 66 = true := by kernel_rfl
theorem ok66 : okFunc (cx.at 66) Tryz.f66 = true := by kernel_rfl
theorem nd66 : (loopIds (bodyOf Tryz.f66)).Nodup := by decide +kernel
theorem cb67 : callable Tryz.prog 67 = true := by kernel_rfl
theorem ok67 : okFunc (cx.at 67) Tryz.f67 = true := by kernel_rfl
theorem nd67 : (loopIds (bodyOf Tryz.f67)).Nodup := by decide +kernel
theorem cb68 : callable Tryz.prog 68 = true := by kernel_rfl
theorem ok68 : okFunc (cx.at 68) Tryz.f68 = true := by kernel_rfl
theorem nd68 : (loopIds (bodyOf Tryz.f68)).Nodup := by decide +kernel
theorem cb69 : callable Tryz.prog 69 = true := by kernel_rfl
theorem ok69 : okFunc (cx.at 69) Tryz.f69 = true := by kernel_rfl
theorem nd69 : (loopIds (bodyOf Tryz.f69)).Nodup := by decide +kernel
theorem cb70 : callable Tryz.prog 70 = true := by kernel_rfl
theorem ok70 : okFunc (cx.at 70) Tryz.f70 = true := by kernel_rfl
theorem nd70 : (loopIds (bodyOf Tryz.f70)).Nodup := by decide +kernel
theorem cb71 : callable Tryz.prog 71 = true := by kernel_rfl
theorem ok71 : okFunc (cx.at 71) Tryz.f71 = true := by kernel_rfl
theorem nd71 : (loopIds (bodyOf Tryz.f71)).Nodup := by decide +kernel
theorem cb73 : callable Tryz.prog 73 = true := by kernel_rfl
theorem ok73 : okFunc (cx.at 73) Tryz.f73 = true := by kernel_rfl
theorem nd73 : (loopIds (bodyOf Tryz.f73)).Nodup := by decide +kernel
theorem cb74 : callable Tryz.prog 74 = true := by kernel_rfl
theorem ok74 : okFunc (cx.at 74) Tryz.f74 = true := by kernel_rfl
theorem nd74 : (loopIds (bodyOf Tryz.f74)).Nodup := by decide +kernel
theorem cb75 : callable Tryz.prog 75 = true := by kernel_rfl
theorem ok75 : okFunc (cx.at 75) Tryz.f75 = true := by kernel_rfl
theorem nd75 : (loopIds (bodyOf Tryz.f75)).Nodup := by decide +kernel
theorem cb76 : callable Tryz.prog 76 = true := by kernel_rfl
theorem ok76 : okFunc (cx.at 76) Tryz.f76 = true := by kernel_rfl
theorem nd76 : (loopIds (bodyOf Tryz.f76)).Nodup := by decide +kernel
theorem cb77 : callable Tryz.prog 77 = true := by kernel_rfl
theorem ok77 : okFunc (cx.at 77) Tryz.f77 = true := by kernel_rfl
theorem nd77 : (loopIds (bodyOf Tryz.f77)).Nodup := by decide +kernel
theorem cb78 : callable Tryz.prog 78 = true := by kernel_rfl
theorem ok78 : okFunc (cx.at 78) Tryz.f78 = true := by kernel_rfl
theorem nd78 : (loopIds (bodyOf Tryz.f78)).Nodup := by decide +kernel
theorem cb79 : callable Tryz.prog 79 = true := by kernel_rfl
theorem ok79 : okFunc (cx.at 79) Tryz.f79 = true := by kernel_rfl
theorem nd79 : (loopIds (bodyOf Tryz.f79)).Nodup := by decide +kernel
theorem cb80 : callable Tryz.prog 80 = true := by kernel_rfl
theorem ok80 : okFunc (cx.at 80) Tryz.f80 = true := by kernel_rfl
theorem nd80 : (loopIds (bodyOf Tryz.f80)).Nodup := by decide +kernel
theorem cb81 : callable Tryz.prog 81 = true := by kernel_rfl
theorem ok81 : okFunc (cx.at 81) Tryz.f81 = true := by kernel_rfl
theorem nd81 : (loopIds (bodyOf Tryz.f81)).Nodup := by decide +kernel
theorem cb82 : callable Tryz.prog 82 = true := by kernel_rfl
theorem ok82 : okFunc (cx.at 82) Tryz.f82 = true := by kernel_rfl
theorem nd82 : (loopIds (bodyOf Tryz.f82)).Nodup := by decide +kernel
theorem cb83 : callable Tryz.prog 83 = true := by kernel_rfl
theorem ok83 : okFunc (cx.at 83) Tryz.f83 = true := by kernel_rfl
theorem nd83 : (loopIds (bodyOf Tryz.f83)).Nodup := by decide +kernel
theorem cb84 : callable Tryz.prog 84 = true := by kernel_rfl
theorem ok84 : okFunc (cx.at 84) Tryz.f84 = true := by kernel_rfl
theorem nd84 : (loopIds (bodyOf Tryz.f84)).Nodup := by decide +kernel
theorem cb85 : callable Tryz.prog 85 = true := by kernel_rfl
theorem ok85 : okFunc (cx.at 85) Tryz.f85 = true := by kernel_rfl
theorem nd85 : (loopIds (bodyOf Tryz.f85)).Nodup := by decide +kernel
theorem cb87 : callable Tryz.prog 87 = true := by kernel_rfl
theorem ok87 : okFunc (cx.at 87) Tryz.f87 = true := by kernel_rfl
theorem nd87 : (loopIds (bodyOf Tryz.f87)).Nodup := by decide +kernel
theorem cb88 : callable Tryz.prog 88 = true := by kernel_rfl
theorem ok88 : okFunc (cx.at 88) Tryz.f88 = true := by kernel_rfl
theorem nd88 : (loopIds (bodyOf Tryz.f88)).Nodup := by decide +kernel
theorem cb89 : callable Tryz.prog 89 = true := by kernel_rfl
theorem ok89 : okFunc (cx.at 89) Tryz.f89 = true := by kernel_rfl
theorem nd89 : (loopIds (bodyOf Tryz.f89)).Nodup := by decide +kernel
theorem cb90 : callable Tryz.prog 90 = true := by kernel_rfl
theorem ok90 : okFunc (cx.at 90) Tryz.f90 = true := by kernel_rfl
theorem nd90 : (loopIds (bodyOf Tryz.f90)).Nodup := by decide +kernel
theorem cb91 : callable Tryz.prog 91 = true := by kernel_rfl
theorem ok91 : okFunc (cx.at 91) Tryz.f91 = true := by kernel_rfl
theorem nd91 : (loopIds (bodyOf Tryz.f91)).Nodup := by decide +kernel
theorem cb92 : callable Tryz.prog 92 = true := by kernel_rfl
theorem ok92 : okFunc (cx.at 92) Tryz.f92 = true := by kernel_rfl
theorem nd92 : (loopIds (bodyOf Tryz.f92)).Nodup := by decide +kernel
theorem cb93 : callable Tryz.prog 93 = true := by kernel_rfl
theorem ok93 : okFunc (cx.at 93) Tryz.f93 = true := by kernel_rfl
theorem nd93 : (loopIds (bodyOf Tryz.f93)).Nodup := by decide +kernel
theorem cb94 : callable Tryz.prog 94 = true := by kernel_rfl
theorem ok94 : okFunc (cx.at 94) Tryz.f94 = true := by kernel_rfl
theorem nd94 : (loopIds (bodyOf Tryz.f94)).Nodup := by decide +kernel
theorem cb95 : callable Tryz.prog 95 = true := by kernel_rfl
theorem ok95 : okFunc (cx.at 95) Tryz.f95 = true := by kernel_rfl
theorem nd95 : (loopIds (bodyOf Tryz.f95)).Nodup := by decide +kernel
theorem cb96 : callable Tryz.prog 96 = true := by kernel_rfl
theorem ok96 : okFunc (cx.at 96) Tryz.f96 = true := by kernel_rfl
theorem nd96 : (loopIds (bodyOf Tryz.f96)).Nodup := by decide +kernel
theorem cb97 : callable Tryz.prog 97 = true := by kernel_rfl
theorem ok97 : okFunc (cx.at 97) Tryz.f97 = true := by kernel_rfl
theorem nd97 : (loopIds (bodyOf Tryz.f97)).Nodup := by decide +kernel
theorem cb98 : callable Tryz.prog 98 = true := by kernel_rfl
theorem ok98 : okFunc (cx.at 98) Tryz.f98 = true := by kernel_rfl
theorem nd98 : (loopIds (bodyOf Tryz.f98)).Nodup := by decide +kernel
theorem cb99 : callable Tryz.prog 99 = true := by kernel_rfl
theorem ok99 : okFunc (cx.at 99) Tryz.f99 = true := by kernel_rfl
theorem nd99 : (loopIds (bodyOf Tryz.f99)).Nodup := by decide +kernel
theorem cb101 : callable Tryz.prog 101 = true := by kernel_rfl
theorem ok101 : okFunc (cx.at 101) Tryz.f101 = true := by kernel_rfl
theorem nd101 : (loopIds (bodyOf Tryz.f101)).Nodup := by decide +kernel
theorem cb102 : callable Tryz.prog 102 = true := by kernel_rfl
theorem ok102 : okFunc (cx.at 102) Tryz.f102 = true := by kernel_rfl
theorem nd102 : (loopIds (bodyOf Tryz.f102)).Nodup := by decide +kernel
theorem cb103 : callable Tryz.prog 103 = true := by kernel_rfl
theorem ok103 : okFunc (cx.at 103) Tryz.f103 = true := by kernel_rfl
theorem nd103 : (loopIds (bodyOf Tryz.f103)).Nodup := by decide +kernel
theorem cb108 : callable Tryz.prog 108 = true := by kernel_rfl
theorem ok108 : okFunc (cx.at 108) Tryz.f108 = true := by kernel_rfl
theorem nd108 : (loopIds (bodyOf Tryz.f108)).Nodup := by decide +kernel
theorem cb111 : callable Tryz.prog 111 = true := by kernel_rfl
theorem ok111 : okFunc (cx.at 111) Tryz.f111 = true := by kernel_rfl
theorem nd111 : (loopIds (bodyOf Tryz.f111)).Nodup := by decide +kernel
theorem cb112 : callable Tryz.prog 112 = true := by kernel_rfl
theorem ok112 : okFunc (cx.at 112) Tryz.f112 = true := by kernel_rfl
theorem nd112 : (loopIds (bodyOf Tryz.f112)).Nodup := by decide +kernel
theorem cb113 : callable Tryz.prog 113 = true := by kernel_rfl
theorem ok113 : okFunc (cx.at 113) Tryz.f113 = true := by kernel_rfl
theorem nd113 : (loopIds (bodyOf Tryz.f113)).Nodup := by decide +kernel
theorem cb121 : callable Tryz.prog 121 = true := by kernel_rfl
theorem ok121 : okFunc (cx.at 121) Tryz.f121 = true := by kernel_rfl
theorem nd121 : (loopIds (bodyOf Tryz.f121)).Nodup := by decide +kernel
theorem cb139 : callable Tryz.prog 139 = true := by kernel_rfl
theorem ok139 : okFunc (cx.at 139) Tryz.f139 = true := by kernel_rfl
theorem nd139 : (loopIds (bodyOf Tryz.f139)).Nodup := by decide +kernel
theorem cb140 : callable Tryz.prog 140 = true := by kernel_rfl
theorem ok140 : okFunc (cx.at 140) Tryz.f140 = true := by kernel_rfl
theorem nd140 : (loopIds (bodyOf Tryz.f140)).Nodup := by decide +kernel
theorem cb141 : callable Tryz.prog 141 = true := by kernel_rfl
theorem ok141 : okFunc (cx.at 141) Tryz.f141 = true := by kernel_rfl
theorem nd141 : (loopIds (bodyOf Tryz.f141)).Nodup := by decide +kernel
theorem cb142 : callable Tryz.prog 142 = true := by kernel_rfl
theorem ok142 : okFunc (cx.at 142) Tryz.f142 = true := by kernel_rfl
theorem nd142 : (loopIds (bodyOf Tryz.f142)).Nodup := by decide +kernel
theorem cb143 : callable Tryz.prog 143 = true := by kernel_rfl
theorem ok143 : okFunc (cx.at 143) Tryz.f143 = true := by kernel_rfl
theorem nd143 : (loopIds (bodyOf Tryz.f143)).Nodup := by decide +kernel
theorem cb144 : callable Tryz.prog 144 = true := by kernel_rfl
-- 144 (*strings.Builder).String: not in order: [region 1: [(6, 0), (7, 0), (8, 0), (9, 0)]; fits true]
theorem cb145 : callable Tryz.prog 145 = true := by kernel_rfl
theorem ok145 : okFunc (cx.at 145) Tryz.f145 = true := by kernel_rfl
theorem nd145 : (loopIds (bodyOf Tryz.f145)).Nodup := by decide +kernel
theorem cb146 : callable Tryz.prog 146 = true := by kernel_rfl
theorem ok146 : okFunc (cx.at 146) Tryz.f146 = true := by kernel_rfl
theorem nd146 : (loopIds (bodyOf Tryz.f146)).Nodup := by decide +kernel
theorem cb149 : callable Tryz.prog 149 = true := by kernel_rfl
theorem ok149 : okFunc (cx.at 149) Tryz.f149 = true := by kernel_rfl
theorem nd149 : (loopIds (bodyOf Tryz.f149)).Nodup := by decide +kernel
theorem cb150 : callable Tryz.prog 150 = true := by kernel_rfl
theorem ok150 : okFunc (cx.at 150) Tryz.f150 = true := by kernel_rfl
theorem nd150 : (loopIds (bodyOf Tryz.f150)).Nodup := by decide +kernel
theorem cb151 : callable Tryz.prog 151 = true := by kernel_rfl
theorem ok151 : okFunc (cx.at 151) Tryz.f151 = true := by kernel_rfl
theorem nd151 : (loopIds (bodyOf Tryz.f151)).Nodup := by decide +kernel
theorem cb152 : callable Tryz.prog 152 = true := by kernel_rfl
theorem ok152 : okFunc (cx.at 152) Tryz.f152 = true := by kernel_rfl
theorem nd152 : (loopIds (bodyOf Tryz.f152)).Nodup := by decide +kernel
theorem cb153 : callable Tryz.prog 153 = true := by kernel_rfl
theorem ok153 : okFunc (cx.at 153) Tryz.f153 = true := by kernel_rfl
theorem nd153 : (loopIds (bodyOf Tryz.f153)).Nodup := by decide +kernel
theorem cb154 : callable Tryz.prog 154 = true := by kernel_rfl
theorem ok154 : okFunc (cx.at 154) Tryz.f154 = true := by kernel_rfl
theorem nd154 : (loopIds (bodyOf Tryz.f154)).Nodup := by decide +kernel
theorem cb155 : callable Tryz.prog 155 = true := by kernel_rfl
theorem ok155 : okFunc (cx.at 155) Tryz.f155 = true := by kernel_rfl
theorem nd155 : (loopIds (bodyOf Tryz.f155)).Nodup := by decide +kernel
theorem cb156 : callable Tryz.prog 156 = true := by kernel_rfl
theorem ok156 : okFunc (cx.at 156) Tryz.f156 = true := by kernel_rfl
theorem nd156 : (loopIds (bodyOf Tryz.f156)).Nodup := by decide +kernel
theorem cb157 : callable Tryz.prog 157 = true := by kernel_rfl
theorem ok157 : okFunc (cx.at 157) Tryz.f157 = true := by kernel_rfl
theorem nd157 : (loopIds (bodyOf Tryz.f157)).Nodup := by decide +kernel
theorem cb158 : callable Tryz.prog 158 = true := by kernel_rfl
theorem ok158 : okFunc (cx.at 158) Tryz.f158 = true := by kernel_rfl
theorem nd158 : (loopIds (bodyOf Tryz.f158)).Nodup := by decide +kernel
theorem cb160 : callable Tryz.prog 160 = true := by kernel_rfl
theorem ok160 : okFunc (cx.at 160) Tryz.f160 = true := by kernel_rfl
theorem nd160 : (loopIds (bodyOf Tryz.f160)).Nodup := by decide +kernel
theorem cb161 : callable Tryz.prog 161 = true := by kernel_rfl
theorem ok161 : okFunc (cx.at 161) Tryz.f161 = true := by kernel_rfl
theorem nd161 : (loopIds (bodyOf Tryz.f161)).Nodup := by decide +kernel
theorem cb162 : callable Tryz.prog 162 = true := by kernel_rfl
theorem ok162 : okFunc (cx.at 162) Tryz.f162 = true := by kernel_rfl
theorem nd162 : (loopIds (bodyOf Tryz.f162)).Nodup := by decide +kernel
theorem cb164 : callable Tryz.prog 164 = true := by kernel_rfl
theorem ok164 : okFunc (cx.at 164) Tryz.f164 = true := by kernel_rfl
theorem nd164 : (loopIds (bodyOf Tryz.f164)).Nodup := by decide +kernel
theorem cb165 : callable Tryz.prog 165 = true := by kernel_rfl
theorem ok165 : okFunc (cx.at 165) Tryz.f165 = true := by kernel_rfl
theorem nd165 : (loopIds (bodyOf Tryz.f165)).Nodup := by decide +kernel
theorem cb167 : callable Tryz.prog 167 = true := by kernel_rfl
theorem ok167 : okFunc (cx.at 167) Tryz.f167 = true := by kernel_rfl
theorem nd167 : (loopIds (bodyOf Tryz.f167)).Nodup := by decide +kernel
theorem cb171 : callable Tryz.prog 171 = true := by kernel_rfl
theorem ok171 : okFunc (cx.at 171) Tryz.f171 = true := by kernel_rfl
theorem nd171 : (loopIds (bodyOf Tryz.f171)).Nodup := by decide +kernel
theorem cb172 : callable Tryz.prog 172 = true := by kernel_rfl
theorem ok172 : okFunc (cx.at 172) Tryz.f172 = true := by kernel_rfl
theorem nd172 : (loopIds (bodyOf Tryz.f172)).Nodup := by decide +kernel
theorem cb173 : callable Tryz.prog 173 = true := by kernel_rfl
theorem ok173 : okFunc (cx.at 173) Tryz.f173 = true := by kernel_rfl
theorem nd173 : (loopIds (bodyOf Tryz.f173)).Nodup := by decide +kernel
theorem cb174 : callable Tryz.prog 174 = true := by kernel_rfl
theorem ok174 : okFunc (cx.at 174) Tryz.f174 = true := by kernel_rfl
theorem nd174 : (loopIds (bodyOf Tryz.f174)).Nodup := by decide +kernel
theorem cb175 : callable Tryz.prog 175 = true := by kernel_rfl
theorem ok175 : okFunc (cx.at 175) Tryz.f175 = true := by kernel_rfl
theorem nd175 : (loopIds (bodyOf Tryz.f175)).Nodup := by decide +kernel
theorem cb183 : callable Tryz.prog 183 = true := by kernel_rfl
theorem ok183 : okFunc (cx.at 183) Tryz.f183 = true := by kernel_rfl
theorem nd183 : (loopIds (bodyOf Tryz.f183)).Nodup := by decide +kernel
end Go.Proofs.YtlcbhhmnfmeoeaaGreatDoor
