import Derived.Test.YtlcbhhmnfmeoeaaDoorVaiD
import Derived.Test.YtlcbhhmnfmeoeaaDoorRows
set_option linter.unusedSimpArgs false
set_option linter.unusedVariables false
set_option linter.unusedSectionVars false
/-
  BY PROGRAM (wip/vai/Gen.lean): what the seat's types are.
-/
namespace Go.Proofs.YtlcbhhmnfmeoeaaDoor
open Vai
theorem tk1 : tk Tryd.prog 1 = .func := by kernel_rfl
theorem sz1 : sz Tryd.prog 1 = some 1 := by kernel_rfl
theorem byt1 : byt Tryd.prog 1 = some 8 := by kernel_rfl
theorem zero1 : zeroT Tryd.prog 1 = some (.nilFunc) := by kernel_rfl
theorem tk2 : tk Tryd.prog 2 = .int .i64 := by kernel_rfl
theorem sz2 : sz Tryd.prog 2 = some 1 := by kernel_rfl
theorem byt2 : byt Tryd.prog 2 = some 8 := by kernel_rfl
theorem zero2 : zeroT Tryd.prog 2 = some (.int .i64 0) := by kernel_rfl
theorem tk3 : tk Tryd.prog 3 = .int .i64 := by kernel_rfl
theorem sz3 : sz Tryd.prog 3 = some 1 := by kernel_rfl
theorem byt3 : byt Tryd.prog 3 = some 8 := by kernel_rfl
theorem zero3 : zeroT Tryd.prog 3 = some (.int .i64 0) := by kernel_rfl
theorem tk4 : tk Tryd.prog 4 = .bool := by kernel_rfl
theorem sz4 : sz Tryd.prog 4 = some 1 := by kernel_rfl
theorem byt4 : byt Tryd.prog 4 = some 1 := by kernel_rfl
theorem zero4 : zeroT Tryd.prog 4 = some (.bool false) := by kernel_rfl
theorem tk5 : tk Tryd.prog 5 = .int .u8 := by kernel_rfl
theorem sz5 : sz Tryd.prog 5 = some 1 := by kernel_rfl
theorem byt5 : byt Tryd.prog 5 = some 1 := by kernel_rfl
theorem zero5 : zeroT Tryd.prog 5 = some (.int .u8 0) := by kernel_rfl
theorem tk6 : tk Tryd.prog 6 = .int .u8 := by kernel_rfl
theorem sz6 : sz Tryd.prog 6 = some 1 := by kernel_rfl
theorem byt6 : byt Tryd.prog 6 = some 1 := by kernel_rfl
theorem zero6 : zeroT Tryd.prog 6 = some (.int .u8 0) := by kernel_rfl
theorem tk7 : tk Tryd.prog 7 = .struct [(0, 2), (1, 3), (2, 4), (3, 6)] := by kernel_rfl
theorem sz7 : sz Tryd.prog 7 = some 4 := by kernel_rfl
theorem byt7 : byt Tryd.prog 7 = some 24 := by kernel_rfl
theorem zero7 : zeroT Tryd.prog 7 = some (.agg [.int .i64 0, .int .i64 0, .bool false, .int .u8 0]) := by kernel_rfl
theorem tk8 : tk Tryd.prog 8 = .struct [(0, 2), (1, 3), (2, 4), (3, 6)] := by kernel_rfl
theorem sz8 : sz Tryd.prog 8 = some 4 := by kernel_rfl
theorem byt8 : byt Tryd.prog 8 = some 24 := by kernel_rfl
theorem zero8 : zeroT Tryd.prog 8 = some (.agg [.int .i64 0, .int .i64 0, .bool false, .int .u8 0]) := by kernel_rfl
theorem tk9 : tk Tryd.prog 9 = .str := by kernel_rfl
theorem sz9 : sz Tryd.prog 9 = some 1 := by kernel_rfl
theorem byt9 : byt Tryd.prog 9 = some 16 := by kernel_rfl
theorem zero9 : zeroT Tryd.prog 9 = some (.str ⟨#[]⟩) := by kernel_rfl
theorem tk10 : tk Tryd.prog 10 = .str := by kernel_rfl
theorem sz10 : sz Tryd.prog 10 = some 1 := by kernel_rfl
theorem byt10 : byt Tryd.prog 10 = some 16 := by kernel_rfl
theorem zero10 : zeroT Tryd.prog 10 = some (.str ⟨#[]⟩) := by kernel_rfl
theorem tk11 : tk Tryd.prog 11 = .str := by kernel_rfl
theorem sz11 : sz Tryd.prog 11 = some 1 := by kernel_rfl
theorem byt11 : byt Tryd.prog 11 = some 16 := by kernel_rfl
theorem zero11 : zeroT Tryd.prog 11 = some (.str ⟨#[]⟩) := by kernel_rfl
theorem tk12 : tk Tryd.prog 12 = .int .u64 := by kernel_rfl
theorem sz12 : sz Tryd.prog 12 = some 1 := by kernel_rfl
theorem byt12 : byt Tryd.prog 12 = some 8 := by kernel_rfl
theorem zero12 : zeroT Tryd.prog 12 = some (.int .u64 0) := by kernel_rfl
theorem tk13 : tk Tryd.prog 13 = .struct [(0, 9), (1, 12)] := by kernel_rfl
theorem sz13 : sz Tryd.prog 13 = some 2 := by kernel_rfl
theorem byt13 : byt Tryd.prog 13 = some 24 := by kernel_rfl
theorem zero13 : zeroT Tryd.prog 13 = some (.agg [.str ⟨#[]⟩, .int .u64 0]) := by kernel_rfl
theorem tk14 : tk Tryd.prog 14 = .struct [(0, 9), (1, 12)] := by kernel_rfl
theorem sz14 : sz Tryd.prog 14 = some 2 := by kernel_rfl
theorem byt14 : byt Tryd.prog 14 = some 24 := by kernel_rfl
theorem zero14 : zeroT Tryd.prog 14 = some (.agg [.str ⟨#[]⟩, .int .u64 0]) := by kernel_rfl
theorem tk15 : tk Tryd.prog 15 = .ptr 109 := by kernel_rfl
theorem sz15 : sz Tryd.prog 15 = some 1 := by kernel_rfl
theorem byt15 : byt Tryd.prog 15 = some 8 := by kernel_rfl
theorem zero15 : zeroT Tryd.prog 15 = some (.nilPtr) := by kernel_rfl
theorem tk16 : tk Tryd.prog 16 = .ptr 112 := by kernel_rfl
theorem sz16 : sz Tryd.prog 16 = some 1 := by kernel_rfl
theorem byt16 : byt Tryd.prog 16 = some 8 := by kernel_rfl
theorem zero16 : zeroT Tryd.prog 16 = some (.nilPtr) := by kernel_rfl
theorem tk17 : tk Tryd.prog 17 = .ptr 120 := by kernel_rfl
theorem sz17 : sz Tryd.prog 17 = some 1 := by kernel_rfl
theorem byt17 : byt Tryd.prog 17 = some 8 := by kernel_rfl
theorem zero17 : zeroT Tryd.prog 17 = some (.nilPtr) := by kernel_rfl
theorem tk18 : tk Tryd.prog 18 = .struct [(0, 17)] := by kernel_rfl
theorem sz18 : sz Tryd.prog 18 = some 1 := by kernel_rfl
theorem byt18 : byt Tryd.prog 18 = some 8 := by kernel_rfl
theorem zero18 : zeroT Tryd.prog 18 = some (.agg [.nilPtr]) := by kernel_rfl
theorem tk19 : tk Tryd.prog 19 = .struct [(0, 17)] := by kernel_rfl
theorem sz19 : sz Tryd.prog 19 = some 1 := by kernel_rfl
theorem byt19 : byt Tryd.prog 19 = some 8 := by kernel_rfl
theorem zero19 : zeroT Tryd.prog 19 = some (.agg [.nilPtr]) := by kernel_rfl
theorem tk20 : tk Tryd.prog 20 = .iface := by kernel_rfl
theorem sz20 : sz Tryd.prog 20 = some 1 := by kernel_rfl
theorem byt20 : byt Tryd.prog 20 = some 16 := by kernel_rfl
theorem zero20 : zeroT Tryd.prog 20 = some (.nilIface) := by kernel_rfl
theorem tk21 : tk Tryd.prog 21 = .int .i32 := by kernel_rfl
theorem sz21 : sz Tryd.prog 21 = some 1 := by kernel_rfl
theorem byt21 : byt Tryd.prog 21 = some 4 := by kernel_rfl
theorem zero21 : zeroT Tryd.prog 21 = some (.int .i32 0) := by kernel_rfl
theorem tk22 : tk Tryd.prog 22 = .slice 36 := by kernel_rfl
theorem sz22 : sz Tryd.prog 22 = some 1 := by kernel_rfl
theorem byt22 : byt Tryd.prog 22 = some 24 := by kernel_rfl
theorem zero22 : zeroT Tryd.prog 22 = some (.nilSlice) := by kernel_rfl
theorem tk23 : tk Tryd.prog 23 = .int .i64 := by kernel_rfl
theorem sz23 : sz Tryd.prog 23 = some 1 := by kernel_rfl
theorem byt23 : byt Tryd.prog 23 = some 8 := by kernel_rfl
theorem zero23 : zeroT Tryd.prog 23 = some (.int .i64 0) := by kernel_rfl
theorem tk25 : tk Tryd.prog 25 = .func := by kernel_rfl
theorem sz25 : sz Tryd.prog 25 = some 1 := by kernel_rfl
theorem byt25 : byt Tryd.prog 25 = some 8 := by kernel_rfl
theorem zero25 : zeroT Tryd.prog 25 = some (.nilFunc) := by kernel_rfl
theorem tk26 : tk Tryd.prog 26 = .struct [(0, 3), (1, 3)] := by kernel_rfl
theorem sz26 : sz Tryd.prog 26 = some 2 := by kernel_rfl
theorem byt26 : byt Tryd.prog 26 = some 16 := by kernel_rfl
theorem zero26 : zeroT Tryd.prog 26 = some (.agg [.int .i64 0, .int .i64 0]) := by kernel_rfl
theorem tk27 : tk Tryd.prog 27 = .struct [(0, 3), (1, 3)] := by kernel_rfl
theorem sz27 : sz Tryd.prog 27 = some 2 := by kernel_rfl
theorem byt27 : byt Tryd.prog 27 = some 16 := by kernel_rfl
theorem zero27 : zeroT Tryd.prog 27 = some (.agg [.int .i64 0, .int .i64 0]) := by kernel_rfl
theorem tk29 : tk Tryd.prog 29 = .func := by kernel_rfl
theorem sz29 : sz Tryd.prog 29 = some 1 := by kernel_rfl
theorem byt29 : byt Tryd.prog 29 = some 8 := by kernel_rfl
theorem zero29 : zeroT Tryd.prog 29 = some (.nilFunc) := by kernel_rfl
theorem tk30 : tk Tryd.prog 30 = .func := by kernel_rfl
theorem sz30 : sz Tryd.prog 30 = some 1 := by kernel_rfl
theorem byt30 : byt Tryd.prog 30 = some 8 := by kernel_rfl
theorem zero30 : zeroT Tryd.prog 30 = some (.nilFunc) := by kernel_rfl
theorem tk31 : tk Tryd.prog 31 = .func := by kernel_rfl
theorem sz31 : sz Tryd.prog 31 = some 1 := by kernel_rfl
theorem byt31 : byt Tryd.prog 31 = some 8 := by kernel_rfl
theorem zero31 : zeroT Tryd.prog 31 = some (.nilFunc) := by kernel_rfl
theorem tk32 : tk Tryd.prog 32 = .func := by kernel_rfl
theorem sz32 : sz Tryd.prog 32 = some 1 := by kernel_rfl
theorem byt32 : byt Tryd.prog 32 = some 8 := by kernel_rfl
theorem zero32 : zeroT Tryd.prog 32 = some (.nilFunc) := by kernel_rfl
theorem tk33 : tk Tryd.prog 33 = .slice 9 := by kernel_rfl
theorem sz33 : sz Tryd.prog 33 = some 1 := by kernel_rfl
theorem byt33 : byt Tryd.prog 33 = some 24 := by kernel_rfl
theorem zero33 : zeroT Tryd.prog 33 = some (.nilSlice) := by kernel_rfl
theorem tk34 : tk Tryd.prog 34 = .func := by kernel_rfl
theorem sz34 : sz Tryd.prog 34 = some 1 := by kernel_rfl
theorem byt34 : byt Tryd.prog 34 = some 8 := by kernel_rfl
theorem zero34 : zeroT Tryd.prog 34 = some (.nilFunc) := by kernel_rfl
theorem tk35 : tk Tryd.prog 35 = .struct [(0, 3), (1, 9), (2, 2), (3, 3)] := by kernel_rfl
theorem sz35 : sz Tryd.prog 35 = some 4 := by kernel_rfl
theorem byt35 : byt Tryd.prog 35 = some 40 := by kernel_rfl
theorem zero35 : zeroT Tryd.prog 35 = some (.agg [.int .i64 0, .str ⟨#[]⟩, .int .i64 0, .int .i64 0]) := by kernel_rfl
theorem tk36 : tk Tryd.prog 36 = .struct [(0, 3), (1, 9), (2, 2), (3, 3)] := by kernel_rfl
theorem sz36 : sz Tryd.prog 36 = some 4 := by kernel_rfl
theorem byt36 : byt Tryd.prog 36 = some 40 := by kernel_rfl
theorem zero36 : zeroT Tryd.prog 36 = some (.agg [.int .i64 0, .str ⟨#[]⟩, .int .i64 0, .int .i64 0]) := by kernel_rfl
theorem tk37 : tk Tryd.prog 37 = .func := by kernel_rfl
theorem sz37 : sz Tryd.prog 37 = some 1 := by kernel_rfl
theorem byt37 : byt Tryd.prog 37 = some 8 := by kernel_rfl
theorem zero37 : zeroT Tryd.prog 37 = some (.nilFunc) := by kernel_rfl
theorem tk38 : tk Tryd.prog 38 = .func := by kernel_rfl
theorem sz38 : sz Tryd.prog 38 = some 1 := by kernel_rfl
theorem byt38 : byt Tryd.prog 38 = some 8 := by kernel_rfl
theorem zero38 : zeroT Tryd.prog 38 = some (.nilFunc) := by kernel_rfl
theorem tk39 : tk Tryd.prog 39 = .func := by kernel_rfl
theorem sz39 : sz Tryd.prog 39 = some 1 := by kernel_rfl
theorem byt39 : byt Tryd.prog 39 = some 8 := by kernel_rfl
theorem zero39 : zeroT Tryd.prog 39 = some (.nilFunc) := by kernel_rfl
theorem tk40 : tk Tryd.prog 40 = .slice 5 := by kernel_rfl
theorem sz40 : sz Tryd.prog 40 = some 1 := by kernel_rfl
theorem byt40 : byt Tryd.prog 40 = some 24 := by kernel_rfl
theorem zero40 : zeroT Tryd.prog 40 = some (.nilSlice) := by kernel_rfl
theorem tk42 : tk Tryd.prog 42 = .func := by kernel_rfl
theorem sz42 : sz Tryd.prog 42 = some 1 := by kernel_rfl
theorem byt42 : byt Tryd.prog 42 = some 8 := by kernel_rfl
theorem zero42 : zeroT Tryd.prog 42 = some (.nilFunc) := by kernel_rfl
theorem tk43 : tk Tryd.prog 43 = .func := by kernel_rfl
theorem sz43 : sz Tryd.prog 43 = some 1 := by kernel_rfl
theorem byt43 : byt Tryd.prog 43 = some 8 := by kernel_rfl
theorem zero43 : zeroT Tryd.prog 43 = some (.nilFunc) := by kernel_rfl
theorem tk44 : tk Tryd.prog 44 = .struct [(0, 3), (1, 2), (2, 9)] := by kernel_rfl
theorem sz44 : sz Tryd.prog 44 = some 3 := by kernel_rfl
theorem byt44 : byt Tryd.prog 44 = some 32 := by kernel_rfl
theorem zero44 : zeroT Tryd.prog 44 = some (.agg [.int .i64 0, .int .i64 0, .str ⟨#[]⟩]) := by kernel_rfl
theorem tk45 : tk Tryd.prog 45 = .struct [(0, 3), (1, 2), (2, 9)] := by kernel_rfl
theorem sz45 : sz Tryd.prog 45 = some 3 := by kernel_rfl
theorem byt45 : byt Tryd.prog 45 = some 32 := by kernel_rfl
theorem zero45 : zeroT Tryd.prog 45 = some (.agg [.int .i64 0, .int .i64 0, .str ⟨#[]⟩]) := by kernel_rfl
theorem tk46 : tk Tryd.prog 46 = .func := by kernel_rfl
theorem sz46 : sz Tryd.prog 46 = some 1 := by kernel_rfl
theorem byt46 : byt Tryd.prog 46 = some 8 := by kernel_rfl
theorem zero46 : zeroT Tryd.prog 46 = some (.nilFunc) := by kernel_rfl
theorem tk47 : tk Tryd.prog 47 = .func := by kernel_rfl
theorem sz47 : sz Tryd.prog 47 = some 1 := by kernel_rfl
theorem byt47 : byt Tryd.prog 47 = some 8 := by kernel_rfl
theorem zero47 : zeroT Tryd.prog 47 = some (.nilFunc) := by kernel_rfl
theorem tk48 : tk Tryd.prog 48 = .ptr 50 := by kernel_rfl
theorem sz48 : sz Tryd.prog 48 = some 1 := by kernel_rfl
theorem byt48 : byt Tryd.prog 48 = some 8 := by kernel_rfl
theorem zero48 : zeroT Tryd.prog 48 = some (.nilPtr) := by kernel_rfl
theorem tk49 : tk Tryd.prog 49 = .struct [(0, 9), (1, 3), (2, 22)] := by kernel_rfl
theorem sz49 : sz Tryd.prog 49 = some 3 := by kernel_rfl
theorem byt49 : byt Tryd.prog 49 = some 48 := by kernel_rfl
theorem zero49 : zeroT Tryd.prog 49 = some (.agg [.str ⟨#[]⟩, .int .i64 0, .nilSlice]) := by kernel_rfl
theorem tk50 : tk Tryd.prog 50 = .struct [(0, 9), (1, 3), (2, 22)] := by kernel_rfl
theorem sz50 : sz Tryd.prog 50 = some 3 := by kernel_rfl
theorem byt50 : byt Tryd.prog 50 = some 48 := by kernel_rfl
theorem zero50 : zeroT Tryd.prog 50 = some (.agg [.str ⟨#[]⟩, .int .i64 0, .nilSlice]) := by kernel_rfl
theorem tk51 : tk Tryd.prog 51 = .func := by kernel_rfl
theorem sz51 : sz Tryd.prog 51 = some 1 := by kernel_rfl
theorem byt51 : byt Tryd.prog 51 = some 8 := by kernel_rfl
theorem zero51 : zeroT Tryd.prog 51 = some (.nilFunc) := by kernel_rfl
theorem tk52 : tk Tryd.prog 52 = .func := by kernel_rfl
theorem sz52 : sz Tryd.prog 52 = some 1 := by kernel_rfl
theorem byt52 : byt Tryd.prog 52 = some 8 := by kernel_rfl
theorem zero52 : zeroT Tryd.prog 52 = some (.nilFunc) := by kernel_rfl
theorem tk54 : tk Tryd.prog 54 = .func := by kernel_rfl
theorem sz54 : sz Tryd.prog 54 = some 1 := by kernel_rfl
theorem byt54 : byt Tryd.prog 54 = some 8 := by kernel_rfl
theorem zero54 : zeroT Tryd.prog 54 = some (.nilFunc) := by kernel_rfl
theorem tk56 : tk Tryd.prog 56 = .func := by kernel_rfl
theorem sz56 : sz Tryd.prog 56 = some 1 := by kernel_rfl
theorem byt56 : byt Tryd.prog 56 = some 8 := by kernel_rfl
theorem zero56 : zeroT Tryd.prog 56 = some (.nilFunc) := by kernel_rfl
theorem tk57 : tk Tryd.prog 57 = .func := by kernel_rfl
theorem sz57 : sz Tryd.prog 57 = some 1 := by kernel_rfl
theorem byt57 : byt Tryd.prog 57 = some 8 := by kernel_rfl
theorem zero57 : zeroT Tryd.prog 57 = some (.nilFunc) := by kernel_rfl
theorem tk58 : tk Tryd.prog 58 = .func := by kernel_rfl
theorem sz58 : sz Tryd.prog 58 = some 1 := by kernel_rfl
theorem byt58 : byt Tryd.prog 58 = some 8 := by kernel_rfl
theorem zero58 : zeroT Tryd.prog 58 = some (.nilFunc) := by kernel_rfl
theorem tk59 : tk Tryd.prog 59 = .int .u64 := by kernel_rfl
theorem sz59 : sz Tryd.prog 59 = some 1 := by kernel_rfl
theorem byt59 : byt Tryd.prog 59 = some 8 := by kernel_rfl
theorem zero59 : zeroT Tryd.prog 59 = some (.int .u64 0) := by kernel_rfl
theorem tk61 : tk Tryd.prog 61 = .func := by kernel_rfl
theorem sz61 : sz Tryd.prog 61 = some 1 := by kernel_rfl
theorem byt61 : byt Tryd.prog 61 = some 8 := by kernel_rfl
theorem zero61 : zeroT Tryd.prog 61 = some (.nilFunc) := by kernel_rfl
theorem tk62 : tk Tryd.prog 62 = .func := by kernel_rfl
theorem sz62 : sz Tryd.prog 62 = some 1 := by kernel_rfl
theorem byt62 : byt Tryd.prog 62 = some 8 := by kernel_rfl
theorem zero62 : zeroT Tryd.prog 62 = some (.nilFunc) := by kernel_rfl
theorem tk63 : tk Tryd.prog 63 = .func := by kernel_rfl
theorem sz63 : sz Tryd.prog 63 = some 1 := by kernel_rfl
theorem byt63 : byt Tryd.prog 63 = some 8 := by kernel_rfl
theorem zero63 : zeroT Tryd.prog 63 = some (.nilFunc) := by kernel_rfl
theorem tk64 : tk Tryd.prog 64 = .int .u64 := by kernel_rfl
theorem sz64 : sz Tryd.prog 64 = some 1 := by kernel_rfl
theorem byt64 : byt Tryd.prog 64 = some 8 := by kernel_rfl
theorem zero64 : zeroT Tryd.prog 64 = some (.int .u64 0) := by kernel_rfl
theorem tk65 : tk Tryd.prog 65 = .func := by kernel_rfl
theorem sz65 : sz Tryd.prog 65 = some 1 := by kernel_rfl
theorem byt65 : byt Tryd.prog 65 = some 8 := by kernel_rfl
theorem zero65 : zeroT Tryd.prog 65 = some (.nilFunc) := by kernel_rfl
theorem tk66 : tk Tryd.prog 66 = .iface := by kernel_rfl
theorem sz66 : sz Tryd.prog 66 = some 1 := by kernel_rfl
theorem byt66 : byt Tryd.prog 66 = some 16 := by kernel_rfl
theorem zero66 : zeroT Tryd.prog 66 = some (.nilIface) := by kernel_rfl
theorem tk67 : tk Tryd.prog 67 = .iface := by kernel_rfl
theorem sz67 : sz Tryd.prog 67 = some 1 := by kernel_rfl
theorem byt67 : byt Tryd.prog 67 = some 16 := by kernel_rfl
theorem zero67 : zeroT Tryd.prog 67 = some (.nilIface) := by kernel_rfl
theorem tk69 : tk Tryd.prog 69 = .func := by kernel_rfl
theorem sz69 : sz Tryd.prog 69 = some 1 := by kernel_rfl
theorem byt69 : byt Tryd.prog 69 = some 8 := by kernel_rfl
theorem zero69 : zeroT Tryd.prog 69 = some (.nilFunc) := by kernel_rfl
theorem tk70 : tk Tryd.prog 70 = .func := by kernel_rfl
theorem sz70 : sz Tryd.prog 70 = some 1 := by kernel_rfl
theorem byt70 : byt Tryd.prog 70 = some 8 := by kernel_rfl
theorem zero70 : zeroT Tryd.prog 70 = some (.nilFunc) := by kernel_rfl
theorem tk71 : tk Tryd.prog 71 = .func := by kernel_rfl
theorem sz71 : sz Tryd.prog 71 = some 1 := by kernel_rfl
theorem byt71 : byt Tryd.prog 71 = some 8 := by kernel_rfl
theorem zero71 : zeroT Tryd.prog 71 = some (.nilFunc) := by kernel_rfl
theorem tk72 : tk Tryd.prog 72 = .func := by kernel_rfl
theorem sz72 : sz Tryd.prog 72 = some 1 := by kernel_rfl
theorem byt72 : byt Tryd.prog 72 = some 8 := by kernel_rfl
theorem zero72 : zeroT Tryd.prog 72 = some (.nilFunc) := by kernel_rfl
theorem tk73 : tk Tryd.prog 73 = .func := by kernel_rfl
theorem sz73 : sz Tryd.prog 73 = some 1 := by kernel_rfl
theorem byt73 : byt Tryd.prog 73 = some 8 := by kernel_rfl
theorem zero73 : zeroT Tryd.prog 73 = some (.nilFunc) := by kernel_rfl
theorem tk74 : tk Tryd.prog 74 = .func := by kernel_rfl
theorem sz74 : sz Tryd.prog 74 = some 1 := by kernel_rfl
theorem byt74 : byt Tryd.prog 74 = some 8 := by kernel_rfl
theorem zero74 : zeroT Tryd.prog 74 = some (.nilFunc) := by kernel_rfl
theorem tk75 : tk Tryd.prog 75 = .int .i64 := by kernel_rfl
theorem sz75 : sz Tryd.prog 75 = some 1 := by kernel_rfl
theorem byt75 : byt Tryd.prog 75 = some 8 := by kernel_rfl
theorem zero75 : zeroT Tryd.prog 75 = some (.int .i64 0) := by kernel_rfl
theorem tk77 : tk Tryd.prog 77 = .func := by kernel_rfl
theorem sz77 : sz Tryd.prog 77 = some 1 := by kernel_rfl
theorem byt77 : byt Tryd.prog 77 = some 8 := by kernel_rfl
theorem zero77 : zeroT Tryd.prog 77 = some (.nilFunc) := by kernel_rfl
theorem tk78 : tk Tryd.prog 78 = .ptr 85 := by kernel_rfl
theorem sz78 : sz Tryd.prog 78 = some 1 := by kernel_rfl
theorem byt78 : byt Tryd.prog 78 = some 8 := by kernel_rfl
theorem zero78 : zeroT Tryd.prog 78 = some (.nilPtr) := by kernel_rfl
theorem tk79 : tk Tryd.prog 79 = .func := by kernel_rfl
theorem sz79 : sz Tryd.prog 79 = some 1 := by kernel_rfl
theorem byt79 : byt Tryd.prog 79 = some 8 := by kernel_rfl
theorem zero79 : zeroT Tryd.prog 79 = some (.nilFunc) := by kernel_rfl
theorem tk80 : tk Tryd.prog 80 = .func := by kernel_rfl
theorem sz80 : sz Tryd.prog 80 = some 1 := by kernel_rfl
theorem byt80 : byt Tryd.prog 80 = some 8 := by kernel_rfl
theorem zero80 : zeroT Tryd.prog 80 = some (.nilFunc) := by kernel_rfl
theorem tk81 : tk Tryd.prog 81 = .int .u32 := by kernel_rfl
theorem sz81 : sz Tryd.prog 81 = some 1 := by kernel_rfl
theorem byt81 : byt Tryd.prog 81 = some 4 := by kernel_rfl
theorem zero81 : zeroT Tryd.prog 81 = some (.int .u32 0) := by kernel_rfl
theorem tk82 : tk Tryd.prog 82 = .func := by kernel_rfl
theorem sz82 : sz Tryd.prog 82 = some 1 := by kernel_rfl
theorem byt82 : byt Tryd.prog 82 = some 8 := by kernel_rfl
theorem zero82 : zeroT Tryd.prog 82 = some (.nilFunc) := by kernel_rfl
theorem tk83 : tk Tryd.prog 83 = .func := by kernel_rfl
theorem sz83 : sz Tryd.prog 83 = some 1 := by kernel_rfl
theorem byt83 : byt Tryd.prog 83 = some 8 := by kernel_rfl
theorem zero83 : zeroT Tryd.prog 83 = some (.nilFunc) := by kernel_rfl
theorem tk84 : tk Tryd.prog 84 = .struct [(0, 9), (1, 9), (2, 67)] := by kernel_rfl
theorem sz84 : sz Tryd.prog 84 = some 3 := by kernel_rfl
theorem byt84 : byt Tryd.prog 84 = some 48 := by kernel_rfl
theorem zero84 : zeroT Tryd.prog 84 = some (.agg [.str ⟨#[]⟩, .str ⟨#[]⟩, .nilIface]) := by kernel_rfl
theorem tk85 : tk Tryd.prog 85 = .struct [(0, 9), (1, 9), (2, 67)] := by kernel_rfl
theorem sz85 : sz Tryd.prog 85 = some 3 := by kernel_rfl
theorem byt85 : byt Tryd.prog 85 = some 48 := by kernel_rfl
theorem zero85 : zeroT Tryd.prog 85 = some (.agg [.str ⟨#[]⟩, .str ⟨#[]⟩, .nilIface]) := by kernel_rfl
theorem tk86 : tk Tryd.prog 86 = .func := by kernel_rfl
theorem sz86 : sz Tryd.prog 86 = some 1 := by kernel_rfl
theorem byt86 : byt Tryd.prog 86 = some 8 := by kernel_rfl
theorem zero86 : zeroT Tryd.prog 86 = some (.nilFunc) := by kernel_rfl
theorem tk87 : tk Tryd.prog 87 = .func := by kernel_rfl
theorem sz87 : sz Tryd.prog 87 = some 1 := by kernel_rfl
theorem byt87 : byt Tryd.prog 87 = some 8 := by kernel_rfl
theorem zero87 : zeroT Tryd.prog 87 = some (.nilFunc) := by kernel_rfl
theorem tk88 : tk Tryd.prog 88 = .ptr 5 := by kernel_rfl
theorem sz88 : sz Tryd.prog 88 = some 1 := by kernel_rfl
theorem byt88 : byt Tryd.prog 88 = some 8 := by kernel_rfl
theorem zero88 : zeroT Tryd.prog 88 = some (.nilPtr) := by kernel_rfl
theorem tk89 : tk Tryd.prog 89 = .ptr 91 := by kernel_rfl
theorem sz89 : sz Tryd.prog 89 = some 1 := by kernel_rfl
theorem byt89 : byt Tryd.prog 89 = some 8 := by kernel_rfl
theorem zero89 : zeroT Tryd.prog 89 = some (.nilPtr) := by kernel_rfl
theorem tk90 : tk Tryd.prog 90 = .struct [(0, 9)] := by kernel_rfl
theorem sz90 : sz Tryd.prog 90 = some 1 := by kernel_rfl
theorem byt90 : byt Tryd.prog 90 = some 16 := by kernel_rfl
theorem zero90 : zeroT Tryd.prog 90 = some (.agg [.str ⟨#[]⟩]) := by kernel_rfl
theorem tk91 : tk Tryd.prog 91 = .struct [(0, 9)] := by kernel_rfl
theorem sz91 : sz Tryd.prog 91 = some 1 := by kernel_rfl
theorem byt91 : byt Tryd.prog 91 = some 16 := by kernel_rfl
theorem zero91 : zeroT Tryd.prog 91 = some (.agg [.str ⟨#[]⟩]) := by kernel_rfl
theorem tk92 : tk Tryd.prog 92 = .func := by kernel_rfl
theorem sz92 : sz Tryd.prog 92 = some 1 := by kernel_rfl
theorem byt92 : byt Tryd.prog 92 = some 8 := by kernel_rfl
theorem zero92 : zeroT Tryd.prog 92 = some (.nilFunc) := by kernel_rfl
theorem tk93 : tk Tryd.prog 93 = .array 24 5 := by kernel_rfl
theorem sz93 : sz Tryd.prog 93 = some 24 := by kernel_rfl
theorem byt93 : byt Tryd.prog 93 = some 24 := by kernel_rfl
theorem zero93 : zeroT Tryd.prog 93 = some (.agg [.int .u8 0, .int .u8 0, .int .u8 0, .int .u8 0, .int .u8 0, .int .u8 0, .int .u8 0, .int .u8 0, .int .u8 0, .int .u8 0, .int .u8 0, .int .u8 0, .int .u8 0, .int .u8 0, .int .u8 0, .int .u8 0, .int .u8 0, .int .u8 0, .int .u8 0, .int .u8 0, .int .u8 0, .int .u8 0, .int .u8 0, .int .u8 0]) := by kernel_rfl
theorem tk94 : tk Tryd.prog 94 = .func := by kernel_rfl
theorem sz94 : sz Tryd.prog 94 = some 1 := by kernel_rfl
theorem byt94 : byt Tryd.prog 94 = some 8 := by kernel_rfl
theorem zero94 : zeroT Tryd.prog 94 = some (.nilFunc) := by kernel_rfl
theorem tk95 : tk Tryd.prog 95 = .func := by kernel_rfl
theorem sz95 : sz Tryd.prog 95 = some 1 := by kernel_rfl
theorem byt95 : byt Tryd.prog 95 = some 8 := by kernel_rfl
theorem zero95 : zeroT Tryd.prog 95 = some (.nilFunc) := by kernel_rfl
theorem tk97 : tk Tryd.prog 97 = .func := by kernel_rfl
theorem sz97 : sz Tryd.prog 97 = some 1 := by kernel_rfl
theorem byt97 : byt Tryd.prog 97 = some 8 := by kernel_rfl
theorem zero97 : zeroT Tryd.prog 97 = some (.nilFunc) := by kernel_rfl
theorem tk98 : tk Tryd.prog 98 = .func := by kernel_rfl
theorem sz98 : sz Tryd.prog 98 = some 1 := by kernel_rfl
theorem byt98 : byt Tryd.prog 98 = some 8 := by kernel_rfl
theorem zero98 : zeroT Tryd.prog 98 = some (.nilFunc) := by kernel_rfl
theorem tk99 : tk Tryd.prog 99 = .func := by kernel_rfl
theorem sz99 : sz Tryd.prog 99 = some 1 := by kernel_rfl
theorem byt99 : byt Tryd.prog 99 = some 8 := by kernel_rfl
theorem zero99 : zeroT Tryd.prog 99 = some (.nilFunc) := by kernel_rfl
theorem tk100 : tk Tryd.prog 100 = .array 20 59 := by kernel_rfl
theorem sz100 : sz Tryd.prog 100 = some 20 := by kernel_rfl
theorem byt100 : byt Tryd.prog 100 = some 160 := by kernel_rfl
theorem zero100 : zeroT Tryd.prog 100 = some (.agg [.int .u64 0, .int .u64 0, .int .u64 0, .int .u64 0, .int .u64 0, .int .u64 0, .int .u64 0, .int .u64 0, .int .u64 0, .int .u64 0, .int .u64 0, .int .u64 0, .int .u64 0, .int .u64 0, .int .u64 0, .int .u64 0, .int .u64 0, .int .u64 0, .int .u64 0, .int .u64 0]) := by kernel_rfl
theorem tk101 : tk Tryd.prog 101 = .array 65 5 := by kernel_rfl
theorem sz101 : sz Tryd.prog 101 = some 65 := by kernel_rfl
theorem byt101 : byt Tryd.prog 101 = some 65 := by kernel_rfl
theorem zero101 : zeroT Tryd.prog 101 = some (.agg [.int .u8 0, .int .u8 0, .int .u8 0, .int .u8 0, .int .u8 0, .int .u8 0, .int .u8 0, .int .u8 0, .int .u8 0, .int .u8 0, .int .u8 0, .int .u8 0, .int .u8 0, .int .u8 0, .int .u8 0, .int .u8 0, .int .u8 0, .int .u8 0, .int .u8 0, .int .u8 0, .int .u8 0, .int .u8 0, .int .u8 0, .int .u8 0, .int .u8 0, .int .u8 0, .int .u8 0, .int .u8 0, .int .u8 0, .int .u8 0, .int .u8 0, .int .u8 0, .int .u8 0, .int .u8 0, .int .u8 0, .int .u8 0, .int .u8 0, .int .u8 0, .int .u8 0, .int .u8 0, .int .u8 0, .int .u8 0, .int .u8 0, .int .u8 0, .int .u8 0, .int .u8 0, .int .u8 0, .int .u8 0, .int .u8 0, .int .u8 0, .int .u8 0, .int .u8 0, .int .u8 0, .int .u8 0, .int .u8 0, .int .u8 0, .int .u8 0, .int .u8 0, .int .u8 0, .int .u8 0, .int .u8 0, .int .u8 0, .int .u8 0, .int .u8 0, .int .u8 0]) := by kernel_rfl
theorem tk102 : tk Tryd.prog 102 = .func := by kernel_rfl
theorem sz102 : sz Tryd.prog 102 = some 1 := by kernel_rfl
theorem byt102 : byt Tryd.prog 102 = some 8 := by kernel_rfl
theorem zero102 : zeroT Tryd.prog 102 = some (.nilFunc) := by kernel_rfl
theorem tk103 : tk Tryd.prog 103 = .func := by kernel_rfl
theorem sz103 : sz Tryd.prog 103 = some 1 := by kernel_rfl
theorem byt103 : byt Tryd.prog 103 = some 8 := by kernel_rfl
theorem zero103 : zeroT Tryd.prog 103 = some (.nilFunc) := by kernel_rfl
theorem tk104 : tk Tryd.prog 104 = .func := by kernel_rfl
theorem sz104 : sz Tryd.prog 104 = some 1 := by kernel_rfl
theorem byt104 : byt Tryd.prog 104 = some 8 := by kernel_rfl
theorem zero104 : zeroT Tryd.prog 104 = some (.nilFunc) := by kernel_rfl
theorem tk105 : tk Tryd.prog 105 = .array 32 5 := by kernel_rfl
theorem sz105 : sz Tryd.prog 105 = some 32 := by kernel_rfl
theorem byt105 : byt Tryd.prog 105 = some 32 := by kernel_rfl
theorem zero105 : zeroT Tryd.prog 105 = some (.agg [.int .u8 0, .int .u8 0, .int .u8 0, .int .u8 0, .int .u8 0, .int .u8 0, .int .u8 0, .int .u8 0, .int .u8 0, .int .u8 0, .int .u8 0, .int .u8 0, .int .u8 0, .int .u8 0, .int .u8 0, .int .u8 0, .int .u8 0, .int .u8 0, .int .u8 0, .int .u8 0, .int .u8 0, .int .u8 0, .int .u8 0, .int .u8 0, .int .u8 0, .int .u8 0, .int .u8 0, .int .u8 0, .int .u8 0, .int .u8 0, .int .u8 0, .int .u8 0]) := by kernel_rfl
theorem tk106 : tk Tryd.prog 106 = .array 64 5 := by kernel_rfl
theorem sz106 : sz Tryd.prog 106 = some 64 := by kernel_rfl
theorem byt106 : byt Tryd.prog 106 = some 64 := by kernel_rfl
theorem zero106 : zeroT Tryd.prog 106 = some (.agg [.int .u8 0, .int .u8 0, .int .u8 0, .int .u8 0, .int .u8 0, .int .u8 0, .int .u8 0, .int .u8 0, .int .u8 0, .int .u8 0, .int .u8 0, .int .u8 0, .int .u8 0, .int .u8 0, .int .u8 0, .int .u8 0, .int .u8 0, .int .u8 0, .int .u8 0, .int .u8 0, .int .u8 0, .int .u8 0, .int .u8 0, .int .u8 0, .int .u8 0, .int .u8 0, .int .u8 0, .int .u8 0, .int .u8 0, .int .u8 0, .int .u8 0, .int .u8 0, .int .u8 0, .int .u8 0, .int .u8 0, .int .u8 0, .int .u8 0, .int .u8 0, .int .u8 0, .int .u8 0, .int .u8 0, .int .u8 0, .int .u8 0, .int .u8 0, .int .u8 0, .int .u8 0, .int .u8 0, .int .u8 0, .int .u8 0, .int .u8 0, .int .u8 0, .int .u8 0, .int .u8 0, .int .u8 0, .int .u8 0, .int .u8 0, .int .u8 0, .int .u8 0, .int .u8 0, .int .u8 0, .int .u8 0, .int .u8 0, .int .u8 0, .int .u8 0]) := by kernel_rfl
theorem tk107 : tk Tryd.prog 107 = .func := by kernel_rfl
theorem sz107 : sz Tryd.prog 107 = some 1 := by kernel_rfl
theorem byt107 : byt Tryd.prog 107 = some 8 := by kernel_rfl
theorem zero107 : zeroT Tryd.prog 107 = some (.nilFunc) := by kernel_rfl
theorem tk108 : tk Tryd.prog 108 = .struct [(0, 17), (1, 17), (2, 17), (3, 9)] := by kernel_rfl
theorem sz108 : sz Tryd.prog 108 = some 4 := by kernel_rfl
theorem byt108 : byt Tryd.prog 108 = some 40 := by kernel_rfl
theorem zero108 : zeroT Tryd.prog 108 = some (.agg [.nilPtr, .nilPtr, .nilPtr, .str ⟨#[]⟩]) := by kernel_rfl
theorem tk109 : tk Tryd.prog 109 = .struct [(0, 17), (1, 17), (2, 17), (3, 9)] := by kernel_rfl
theorem sz109 : sz Tryd.prog 109 = some 4 := by kernel_rfl
theorem byt109 : byt Tryd.prog 109 = some 40 := by kernel_rfl
theorem zero109 : zeroT Tryd.prog 109 = some (.agg [.nilPtr, .nilPtr, .nilPtr, .str ⟨#[]⟩]) := by kernel_rfl
theorem tk110 : tk Tryd.prog 110 = .array 0 16 := by kernel_rfl
theorem sz110 : sz Tryd.prog 110 = some 0 := by kernel_rfl
theorem byt110 : byt Tryd.prog 110 = some 0 := by kernel_rfl
theorem zero110 : zeroT Tryd.prog 110 = some (.agg []) := by kernel_rfl
theorem tk111 : tk Tryd.prog 111 = .struct [(0, 110)] := by kernel_rfl
theorem sz111 : sz Tryd.prog 111 = some 0 := by kernel_rfl
theorem byt111 : byt Tryd.prog 111 = some 0 := by kernel_rfl
theorem zero111 : zeroT Tryd.prog 111 = some (.agg []) := by kernel_rfl
theorem tk112 : tk Tryd.prog 112 = .struct [(0, 110)] := by kernel_rfl
theorem sz112 : sz Tryd.prog 112 = some 0 := by kernel_rfl
theorem byt112 : byt Tryd.prog 112 = some 0 := by kernel_rfl
theorem zero112 : zeroT Tryd.prog 112 = some (.agg []) := by kernel_rfl
theorem tk113 : tk Tryd.prog 113 = .func := by kernel_rfl
theorem sz113 : sz Tryd.prog 113 = some 1 := by kernel_rfl
theorem byt113 : byt Tryd.prog 113 = some 8 := by kernel_rfl
theorem zero113 : zeroT Tryd.prog 113 = some (.nilFunc) := by kernel_rfl
theorem tk114 : tk Tryd.prog 114 = .int .u8 := by kernel_rfl
theorem sz114 : sz Tryd.prog 114 = some 1 := by kernel_rfl
theorem byt114 : byt Tryd.prog 114 = some 1 := by kernel_rfl
theorem zero114 : zeroT Tryd.prog 114 = some (.int .u8 0) := by kernel_rfl
theorem tk115 : tk Tryd.prog 115 = .int .u8 := by kernel_rfl
theorem sz115 : sz Tryd.prog 115 = some 1 := by kernel_rfl
theorem byt115 : byt Tryd.prog 115 = some 1 := by kernel_rfl
theorem zero115 : zeroT Tryd.prog 115 = some (.int .u8 0) := by kernel_rfl
theorem tk116 : tk Tryd.prog 116 = .func := by kernel_rfl
theorem sz116 : sz Tryd.prog 116 = some 1 := by kernel_rfl
theorem byt116 : byt Tryd.prog 116 = some 8 := by kernel_rfl
theorem zero116 : zeroT Tryd.prog 116 = some (.nilFunc) := by kernel_rfl
theorem tk117 : tk Tryd.prog 117 = .int .i32 := by kernel_rfl
theorem sz117 : sz Tryd.prog 117 = some 1 := by kernel_rfl
theorem byt117 : byt Tryd.prog 117 = some 4 := by kernel_rfl
theorem zero117 : zeroT Tryd.prog 117 = some (.int .i32 0) := by kernel_rfl
theorem tk118 : tk Tryd.prog 118 = .int .i32 := by kernel_rfl
theorem sz118 : sz Tryd.prog 118 = some 1 := by kernel_rfl
theorem byt118 : byt Tryd.prog 118 = some 4 := by kernel_rfl
theorem zero118 : zeroT Tryd.prog 118 = some (.int .i32 0) := by kernel_rfl
theorem tk119 : tk Tryd.prog 119 = .struct [(0, 12), (1, 12), (2, 81), (3, 114), (4, 5), (5, 5), (6, 115), (7, 116), (8, 88), (9, 117), (10, 118)] := by kernel_rfl
theorem sz119 : sz Tryd.prog 119 = some 11 := by kernel_rfl
theorem byt119 : byt Tryd.prog 119 = some 48 := by kernel_rfl
theorem zero119 : zeroT Tryd.prog 119 = some (.agg [.int .u64 0, .int .u64 0, .int .u32 0, .int .u8 0, .int .u8 0, .int .u8 0, .int .u8 0, .nilFunc, .nilPtr, .int .i32 0, .int .i32 0]) := by kernel_rfl
theorem tk120 : tk Tryd.prog 120 = .struct [(0, 12), (1, 12), (2, 81), (3, 114), (4, 5), (5, 5), (6, 115), (7, 116), (8, 88), (9, 117), (10, 118)] := by kernel_rfl
theorem sz120 : sz Tryd.prog 120 = some 11 := by kernel_rfl
theorem byt120 : byt Tryd.prog 120 = some 48 := by kernel_rfl
theorem zero120 : zeroT Tryd.prog 120 = some (.agg [.int .u64 0, .int .u64 0, .int .u32 0, .int .u8 0, .int .u8 0, .int .u8 0, .int .u8 0, .nilFunc, .nilPtr, .int .i32 0, .int .i32 0]) := by kernel_rfl
attribute [simp] tk1 sz1 byt1 zero1 tk2 sz2 byt2 zero2 tk3 sz3 byt3 zero3 tk4 sz4 byt4 zero4 tk5 sz5 byt5 zero5 tk6 sz6 byt6 zero6 tk7 sz7 byt7 zero7 tk8 sz8 byt8 zero8 tk9 sz9 byt9 zero9 tk10 sz10 byt10 zero10 tk11 sz11 byt11 zero11 tk12 sz12 byt12 zero12 tk13 sz13 byt13 zero13 tk14 sz14 byt14 zero14 tk15 sz15 byt15 zero15 tk16 sz16 byt16 zero16 tk17 sz17 byt17 zero17 tk18 sz18 byt18 zero18 tk19 sz19 byt19 zero19 tk20 sz20 byt20 zero20 tk21 sz21 byt21 zero21 tk22 sz22 byt22 zero22 tk23 sz23 byt23 zero23 tk25 sz25 byt25 zero25 tk26 sz26 byt26 zero26 tk27 sz27 byt27 zero27 tk29 sz29 byt29 zero29 tk30 sz30 byt30 zero30 tk31 sz31 byt31 zero31 tk32 sz32 byt32 zero32 tk33 sz33 byt33 zero33 tk34 sz34 byt34 zero34 tk35 sz35 byt35 zero35 tk36 sz36 byt36 zero36 tk37 sz37 byt37 zero37 tk38 sz38 byt38 zero38 tk39 sz39 byt39 zero39 tk40 sz40 byt40 zero40 tk42 sz42 byt42 zero42 tk43 sz43 byt43 zero43 tk44 sz44 byt44 zero44 tk45 sz45 byt45 zero45 tk46 sz46 byt46 zero46 tk47 sz47 byt47 zero47 tk48 sz48 byt48 zero48 tk49 sz49 byt49 zero49 tk50 sz50 byt50 zero50 tk51 sz51 byt51 zero51 tk52 sz52 byt52 zero52 tk54 sz54 byt54 zero54 tk56 sz56 byt56 zero56 tk57 sz57 byt57 zero57 tk58 sz58 byt58 zero58 tk59 sz59 byt59 zero59 tk61 sz61 byt61 zero61 tk62 sz62 byt62 zero62 tk63 sz63 byt63 zero63 tk64 sz64 byt64 zero64 tk65 sz65 byt65 zero65 tk66 sz66 byt66 zero66 tk67 sz67 byt67 zero67 tk69 sz69 byt69 zero69 tk70 sz70 byt70 zero70 tk71 sz71 byt71 zero71 tk72 sz72 byt72 zero72 tk73 sz73 byt73 zero73 tk74 sz74 byt74 zero74 tk75 sz75 byt75 zero75 tk77 sz77 byt77 zero77 tk78 sz78 byt78 zero78 tk79 sz79 byt79 zero79 tk80 sz80 byt80 zero80 tk81 sz81 byt81 zero81 tk82 sz82 byt82 zero82 tk83 sz83 byt83 zero83 tk84 sz84 byt84 zero84 tk85 sz85 byt85 zero85 tk86 sz86 byt86 zero86 tk87 sz87 byt87 zero87 tk88 sz88 byt88 zero88 tk89 sz89 byt89 zero89 tk90 sz90 byt90 zero90 tk91 sz91 byt91 zero91 tk92 sz92 byt92 zero92 tk93 sz93 byt93 zero93 tk94 sz94 byt94 zero94 tk95 sz95 byt95 zero95 tk97 sz97 byt97 zero97 tk98 sz98 byt98 zero98 tk99 sz99 byt99 zero99 tk100 sz100 byt100 zero100 tk101 sz101 byt101 zero101 tk102 sz102 byt102 zero102 tk103 sz103 byt103 zero103 tk104 sz104 byt104 zero104 tk105 sz105 byt105 zero105 tk106 sz106 byt106 zero106 tk107 sz107 byt107 zero107 tk108 sz108 byt108 zero108 tk109 sz109 byt109 zero109 tk110 sz110 byt110 zero110 tk111 sz111 byt111 zero111 tk112 sz112 byt112 zero112 tk113 sz113 byt113 zero113 tk114 sz114 byt114 zero114 tk115 sz115 byt115 zero115 tk116 sz116 byt116 zero116 tk117 sz117 byt117 zero117 tk118 sz118 byt118 zero118 tk119 sz119 byt119 zero119 tk120 sz120 byt120 zero120
end Go.Proofs.YtlcbhhmnfmeoeaaDoor
