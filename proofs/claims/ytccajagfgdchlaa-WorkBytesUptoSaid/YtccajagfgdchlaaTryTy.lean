import Derived.Test.YtccajagfgdchlaaVaiD
import Derived.Test.YtccajagfgdchlaaRows
set_option linter.unusedSimpArgs false
set_option linter.unusedVariables false
set_option linter.unusedSectionVars false
/-
  BY PROGRAM (wip/vai/Gen.lean): what the seat's types are.
-/
namespace Go.Proofs.Ytccajagfgdchlaa
open Vai
theorem tk1 : tk Try.prog 1 = .func := by kernel_rfl
theorem sz1 : sz Try.prog 1 = some 1 := by kernel_rfl
theorem byt1 : byt Try.prog 1 = some 8 := by kernel_rfl
theorem zero1 : zeroT Try.prog 1 = some (.nilFunc) := by kernel_rfl
theorem tk2 : tk Try.prog 2 = .int .i64 := by kernel_rfl
theorem sz2 : sz Try.prog 2 = some 1 := by kernel_rfl
theorem byt2 : byt Try.prog 2 = some 8 := by kernel_rfl
theorem zero2 : zeroT Try.prog 2 = some (.int .i64 0) := by kernel_rfl
theorem tk3 : tk Try.prog 3 = .int .i64 := by kernel_rfl
theorem sz3 : sz Try.prog 3 = some 1 := by kernel_rfl
theorem byt3 : byt Try.prog 3 = some 8 := by kernel_rfl
theorem zero3 : zeroT Try.prog 3 = some (.int .i64 0) := by kernel_rfl
theorem tk4 : tk Try.prog 4 = .bool := by kernel_rfl
theorem sz4 : sz Try.prog 4 = some 1 := by kernel_rfl
theorem byt4 : byt Try.prog 4 = some 1 := by kernel_rfl
theorem zero4 : zeroT Try.prog 4 = some (.bool false) := by kernel_rfl
theorem tk5 : tk Try.prog 5 = .int .u8 := by kernel_rfl
theorem sz5 : sz Try.prog 5 = some 1 := by kernel_rfl
theorem byt5 : byt Try.prog 5 = some 1 := by kernel_rfl
theorem zero5 : zeroT Try.prog 5 = some (.int .u8 0) := by kernel_rfl
theorem tk6 : tk Try.prog 6 = .int .u8 := by kernel_rfl
theorem sz6 : sz Try.prog 6 = some 1 := by kernel_rfl
theorem byt6 : byt Try.prog 6 = some 1 := by kernel_rfl
theorem zero6 : zeroT Try.prog 6 = some (.int .u8 0) := by kernel_rfl
theorem tk7 : tk Try.prog 7 = .struct [(0, 2), (1, 3), (2, 4), (3, 6)] := by kernel_rfl
theorem sz7 : sz Try.prog 7 = some 4 := by kernel_rfl
theorem byt7 : byt Try.prog 7 = some 24 := by kernel_rfl
theorem zero7 : zeroT Try.prog 7 = some (.agg [.int .i64 0, .int .i64 0, .bool false, .int .u8 0]) := by kernel_rfl
theorem tk8 : tk Try.prog 8 = .struct [(0, 2), (1, 3), (2, 4), (3, 6)] := by kernel_rfl
theorem sz8 : sz Try.prog 8 = some 4 := by kernel_rfl
theorem byt8 : byt Try.prog 8 = some 24 := by kernel_rfl
theorem zero8 : zeroT Try.prog 8 = some (.agg [.int .i64 0, .int .i64 0, .bool false, .int .u8 0]) := by kernel_rfl
theorem tk9 : tk Try.prog 9 = .str := by kernel_rfl
theorem sz9 : sz Try.prog 9 = some 1 := by kernel_rfl
theorem byt9 : byt Try.prog 9 = some 16 := by kernel_rfl
theorem zero9 : zeroT Try.prog 9 = some (.str ⟨#[]⟩) := by kernel_rfl
theorem tk10 : tk Try.prog 10 = .str := by kernel_rfl
theorem sz10 : sz Try.prog 10 = some 1 := by kernel_rfl
theorem byt10 : byt Try.prog 10 = some 16 := by kernel_rfl
theorem zero10 : zeroT Try.prog 10 = some (.str ⟨#[]⟩) := by kernel_rfl
theorem tk11 : tk Try.prog 11 = .str := by kernel_rfl
theorem sz11 : sz Try.prog 11 = some 1 := by kernel_rfl
theorem byt11 : byt Try.prog 11 = some 16 := by kernel_rfl
theorem zero11 : zeroT Try.prog 11 = some (.str ⟨#[]⟩) := by kernel_rfl
theorem tk12 : tk Try.prog 12 = .int .u64 := by kernel_rfl
theorem sz12 : sz Try.prog 12 = some 1 := by kernel_rfl
theorem byt12 : byt Try.prog 12 = some 8 := by kernel_rfl
theorem zero12 : zeroT Try.prog 12 = some (.int .u64 0) := by kernel_rfl
theorem tk13 : tk Try.prog 13 = .struct [(0, 9), (1, 12)] := by kernel_rfl
theorem sz13 : sz Try.prog 13 = some 2 := by kernel_rfl
theorem byt13 : byt Try.prog 13 = some 24 := by kernel_rfl
theorem zero13 : zeroT Try.prog 13 = some (.agg [.str ⟨#[]⟩, .int .u64 0]) := by kernel_rfl
theorem tk14 : tk Try.prog 14 = .struct [(0, 9), (1, 12)] := by kernel_rfl
theorem sz14 : sz Try.prog 14 = some 2 := by kernel_rfl
theorem byt14 : byt Try.prog 14 = some 24 := by kernel_rfl
theorem zero14 : zeroT Try.prog 14 = some (.agg [.str ⟨#[]⟩, .int .u64 0]) := by kernel_rfl
theorem tk15 : tk Try.prog 15 = .ptr 136 := by kernel_rfl
theorem sz15 : sz Try.prog 15 = some 1 := by kernel_rfl
theorem byt15 : byt Try.prog 15 = some 8 := by kernel_rfl
theorem zero15 : zeroT Try.prog 15 = some (.nilPtr) := by kernel_rfl
theorem tk16 : tk Try.prog 16 = .ptr 139 := by kernel_rfl
theorem sz16 : sz Try.prog 16 = some 1 := by kernel_rfl
theorem byt16 : byt Try.prog 16 = some 8 := by kernel_rfl
theorem zero16 : zeroT Try.prog 16 = some (.nilPtr) := by kernel_rfl
theorem tk17 : tk Try.prog 17 = .ptr 148 := by kernel_rfl
theorem sz17 : sz Try.prog 17 = some 1 := by kernel_rfl
theorem byt17 : byt Try.prog 17 = some 8 := by kernel_rfl
theorem zero17 : zeroT Try.prog 17 = some (.nilPtr) := by kernel_rfl
theorem tk18 : tk Try.prog 18 = .struct [(0, 17)] := by kernel_rfl
theorem sz18 : sz Try.prog 18 = some 1 := by kernel_rfl
theorem byt18 : byt Try.prog 18 = some 8 := by kernel_rfl
theorem zero18 : zeroT Try.prog 18 = some (.agg [.nilPtr]) := by kernel_rfl
theorem tk19 : tk Try.prog 19 = .struct [(0, 17)] := by kernel_rfl
theorem sz19 : sz Try.prog 19 = some 1 := by kernel_rfl
theorem byt19 : byt Try.prog 19 = some 8 := by kernel_rfl
theorem zero19 : zeroT Try.prog 19 = some (.agg [.nilPtr]) := by kernel_rfl
theorem tk20 : tk Try.prog 20 = .iface := by kernel_rfl
theorem sz20 : sz Try.prog 20 = some 1 := by kernel_rfl
theorem byt20 : byt Try.prog 20 = some 16 := by kernel_rfl
theorem zero20 : zeroT Try.prog 20 = some (.nilIface) := by kernel_rfl
theorem tk21 : tk Try.prog 21 = .int .i32 := by kernel_rfl
theorem sz21 : sz Try.prog 21 = some 1 := by kernel_rfl
theorem byt21 : byt Try.prog 21 = some 4 := by kernel_rfl
theorem zero21 : zeroT Try.prog 21 = some (.int .i32 0) := by kernel_rfl
theorem tk22 : tk Try.prog 22 = .slice 5 := by kernel_rfl
theorem sz22 : sz Try.prog 22 = some 1 := by kernel_rfl
theorem byt22 : byt Try.prog 22 = some 24 := by kernel_rfl
theorem zero22 : zeroT Try.prog 22 = some (.nilSlice) := by kernel_rfl
theorem tk23 : tk Try.prog 23 = .func := by kernel_rfl
theorem sz23 : sz Try.prog 23 = some 1 := by kernel_rfl
theorem byt23 : byt Try.prog 23 = some 8 := by kernel_rfl
theorem zero23 : zeroT Try.prog 23 = some (.nilFunc) := by kernel_rfl
theorem tk24 : tk Try.prog 24 = .func := by kernel_rfl
theorem sz24 : sz Try.prog 24 = some 1 := by kernel_rfl
theorem byt24 : byt Try.prog 24 = some 8 := by kernel_rfl
theorem zero24 : zeroT Try.prog 24 = some (.nilFunc) := by kernel_rfl
theorem tk25 : tk Try.prog 25 = .func := by kernel_rfl
theorem sz25 : sz Try.prog 25 = some 1 := by kernel_rfl
theorem byt25 : byt Try.prog 25 = some 8 := by kernel_rfl
theorem zero25 : zeroT Try.prog 25 = some (.nilFunc) := by kernel_rfl
theorem tk26 : tk Try.prog 26 = .func := by kernel_rfl
theorem sz26 : sz Try.prog 26 = some 1 := by kernel_rfl
theorem byt26 : byt Try.prog 26 = some 8 := by kernel_rfl
theorem zero26 : zeroT Try.prog 26 = some (.nilFunc) := by kernel_rfl
theorem tk27 : tk Try.prog 27 = .func := by kernel_rfl
theorem sz27 : sz Try.prog 27 = some 1 := by kernel_rfl
theorem byt27 : byt Try.prog 27 = some 8 := by kernel_rfl
theorem zero27 : zeroT Try.prog 27 = some (.nilFunc) := by kernel_rfl
theorem tk28 : tk Try.prog 28 = .func := by kernel_rfl
theorem sz28 : sz Try.prog 28 = some 1 := by kernel_rfl
theorem byt28 : byt Try.prog 28 = some 8 := by kernel_rfl
theorem zero28 : zeroT Try.prog 28 = some (.nilFunc) := by kernel_rfl
theorem tk29 : tk Try.prog 29 = .slice 58 := by kernel_rfl
theorem sz29 : sz Try.prog 29 = some 1 := by kernel_rfl
theorem byt29 : byt Try.prog 29 = some 24 := by kernel_rfl
theorem zero29 : zeroT Try.prog 29 = some (.nilSlice) := by kernel_rfl
theorem tk30 : tk Try.prog 30 = .struct [(0, 3), (1, 3), (2, 9), (3, 4), (4, 3), (5, 2), (6, 2), (7, 2), (8, 29)] := by kernel_rfl
theorem sz30 : sz Try.prog 30 = some 9 := by kernel_rfl
theorem byt30 : byt Try.prog 30 = some 96 := by kernel_rfl
theorem zero30 : zeroT Try.prog 30 = some (.agg [.int .i64 0, .int .i64 0, .str ⟨#[]⟩, .bool false, .int .i64 0, .int .i64 0, .int .i64 0, .int .i64 0, .nilSlice]) := by kernel_rfl
theorem tk31 : tk Try.prog 31 = .struct [(0, 3), (1, 3), (2, 9), (3, 4), (4, 3), (5, 2), (6, 2), (7, 2), (8, 29)] := by kernel_rfl
theorem sz31 : sz Try.prog 31 = some 9 := by kernel_rfl
theorem byt31 : byt Try.prog 31 = some 96 := by kernel_rfl
theorem zero31 : zeroT Try.prog 31 = some (.agg [.int .i64 0, .int .i64 0, .str ⟨#[]⟩, .bool false, .int .i64 0, .int .i64 0, .int .i64 0, .int .i64 0, .nilSlice]) := by kernel_rfl
theorem tk32 : tk Try.prog 32 = .func := by kernel_rfl
theorem sz32 : sz Try.prog 32 = some 1 := by kernel_rfl
theorem byt32 : byt Try.prog 32 = some 8 := by kernel_rfl
theorem zero32 : zeroT Try.prog 32 = some (.nilFunc) := by kernel_rfl
theorem tk33 : tk Try.prog 33 = .int .i64 := by kernel_rfl
theorem sz33 : sz Try.prog 33 = some 1 := by kernel_rfl
theorem byt33 : byt Try.prog 33 = some 8 := by kernel_rfl
theorem zero33 : zeroT Try.prog 33 = some (.int .i64 0) := by kernel_rfl
theorem tk35 : tk Try.prog 35 = .func := by kernel_rfl
theorem sz35 : sz Try.prog 35 = some 1 := by kernel_rfl
theorem byt35 : byt Try.prog 35 = some 8 := by kernel_rfl
theorem zero35 : zeroT Try.prog 35 = some (.nilFunc) := by kernel_rfl
theorem tk36 : tk Try.prog 36 = .func := by kernel_rfl
theorem sz36 : sz Try.prog 36 = some 1 := by kernel_rfl
theorem byt36 : byt Try.prog 36 = some 8 := by kernel_rfl
theorem zero36 : zeroT Try.prog 36 = some (.nilFunc) := by kernel_rfl
theorem tk37 : tk Try.prog 37 = .func := by kernel_rfl
theorem sz37 : sz Try.prog 37 = some 1 := by kernel_rfl
theorem byt37 : byt Try.prog 37 = some 8 := by kernel_rfl
theorem zero37 : zeroT Try.prog 37 = some (.nilFunc) := by kernel_rfl
theorem tk38 : tk Try.prog 38 = .ptr 87 := by kernel_rfl
theorem sz38 : sz Try.prog 38 = some 1 := by kernel_rfl
theorem byt38 : byt Try.prog 38 = some 8 := by kernel_rfl
theorem zero38 : zeroT Try.prog 38 = some (.nilPtr) := by kernel_rfl
theorem tk39 : tk Try.prog 39 = .func := by kernel_rfl
theorem sz39 : sz Try.prog 39 = some 1 := by kernel_rfl
theorem byt39 : byt Try.prog 39 = some 8 := by kernel_rfl
theorem zero39 : zeroT Try.prog 39 = some (.nilFunc) := by kernel_rfl
theorem tk40 : tk Try.prog 40 = .ptr 42 := by kernel_rfl
theorem sz40 : sz Try.prog 40 = some 1 := by kernel_rfl
theorem byt40 : byt Try.prog 40 = some 8 := by kernel_rfl
theorem zero40 : zeroT Try.prog 40 = some (.nilPtr) := by kernel_rfl
theorem tk41 : tk Try.prog 41 = .struct [(0, 22), (1, 3), (2, 4)] := by kernel_rfl
theorem sz41 : sz Try.prog 41 = some 3 := by kernel_rfl
theorem byt41 : byt Try.prog 41 = some 40 := by kernel_rfl
theorem zero41 : zeroT Try.prog 41 = some (.agg [.nilSlice, .int .i64 0, .bool false]) := by kernel_rfl
theorem tk42 : tk Try.prog 42 = .struct [(0, 22), (1, 3), (2, 4)] := by kernel_rfl
theorem sz42 : sz Try.prog 42 = some 3 := by kernel_rfl
theorem byt42 : byt Try.prog 42 = some 40 := by kernel_rfl
theorem zero42 : zeroT Try.prog 42 = some (.agg [.nilSlice, .int .i64 0, .bool false]) := by kernel_rfl
theorem tk43 : tk Try.prog 43 = .func := by kernel_rfl
theorem sz43 : sz Try.prog 43 = some 1 := by kernel_rfl
theorem byt43 : byt Try.prog 43 = some 8 := by kernel_rfl
theorem zero43 : zeroT Try.prog 43 = some (.nilFunc) := by kernel_rfl
theorem tk44 : tk Try.prog 44 = .func := by kernel_rfl
theorem sz44 : sz Try.prog 44 = some 1 := by kernel_rfl
theorem byt44 : byt Try.prog 44 = some 8 := by kernel_rfl
theorem zero44 : zeroT Try.prog 44 = some (.nilFunc) := by kernel_rfl
theorem tk45 : tk Try.prog 45 = .func := by kernel_rfl
theorem sz45 : sz Try.prog 45 = some 1 := by kernel_rfl
theorem byt45 : byt Try.prog 45 = some 8 := by kernel_rfl
theorem zero45 : zeroT Try.prog 45 = some (.nilFunc) := by kernel_rfl
theorem tk46 : tk Try.prog 46 = .slice 48 := by kernel_rfl
theorem sz46 : sz Try.prog 46 = some 1 := by kernel_rfl
theorem byt46 : byt Try.prog 46 = some 24 := by kernel_rfl
theorem zero46 : zeroT Try.prog 46 = some (.nilSlice) := by kernel_rfl
theorem tk47 : tk Try.prog 47 = .struct [(0, 3), (1, 3)] := by kernel_rfl
theorem sz47 : sz Try.prog 47 = some 2 := by kernel_rfl
theorem byt47 : byt Try.prog 47 = some 16 := by kernel_rfl
theorem zero47 : zeroT Try.prog 47 = some (.agg [.int .i64 0, .int .i64 0]) := by kernel_rfl
theorem tk48 : tk Try.prog 48 = .struct [(0, 3), (1, 3)] := by kernel_rfl
theorem sz48 : sz Try.prog 48 = some 2 := by kernel_rfl
theorem byt48 : byt Try.prog 48 = some 16 := by kernel_rfl
theorem zero48 : zeroT Try.prog 48 = some (.agg [.int .i64 0, .int .i64 0]) := by kernel_rfl
theorem tk49 : tk Try.prog 49 = .func := by kernel_rfl
theorem sz49 : sz Try.prog 49 = some 1 := by kernel_rfl
theorem byt49 : byt Try.prog 49 = some 8 := by kernel_rfl
theorem zero49 : zeroT Try.prog 49 = some (.nilFunc) := by kernel_rfl
theorem tk50 : tk Try.prog 50 = .func := by kernel_rfl
theorem sz50 : sz Try.prog 50 = some 1 := by kernel_rfl
theorem byt50 : byt Try.prog 50 = some 8 := by kernel_rfl
theorem zero50 : zeroT Try.prog 50 = some (.nilFunc) := by kernel_rfl
theorem tk51 : tk Try.prog 51 = .func := by kernel_rfl
theorem sz51 : sz Try.prog 51 = some 1 := by kernel_rfl
theorem byt51 : byt Try.prog 51 = some 8 := by kernel_rfl
theorem zero51 : zeroT Try.prog 51 = some (.nilFunc) := by kernel_rfl
theorem tk52 : tk Try.prog 52 = .func := by kernel_rfl
theorem sz52 : sz Try.prog 52 = some 1 := by kernel_rfl
theorem byt52 : byt Try.prog 52 = some 8 := by kernel_rfl
theorem zero52 : zeroT Try.prog 52 = some (.nilFunc) := by kernel_rfl
theorem tk53 : tk Try.prog 53 = .func := by kernel_rfl
theorem sz53 : sz Try.prog 53 = some 1 := by kernel_rfl
theorem byt53 : byt Try.prog 53 = some 8 := by kernel_rfl
theorem zero53 : zeroT Try.prog 53 = some (.nilFunc) := by kernel_rfl
theorem tk54 : tk Try.prog 54 = .slice 31 := by kernel_rfl
theorem sz54 : sz Try.prog 54 = some 1 := by kernel_rfl
theorem byt54 : byt Try.prog 54 = some 24 := by kernel_rfl
theorem zero54 : zeroT Try.prog 54 = some (.nilSlice) := by kernel_rfl
theorem tk55 : tk Try.prog 55 = .struct [(0, 3), (1, 2), (2, 9)] := by kernel_rfl
theorem sz55 : sz Try.prog 55 = some 3 := by kernel_rfl
theorem byt55 : byt Try.prog 55 = some 32 := by kernel_rfl
theorem zero55 : zeroT Try.prog 55 = some (.agg [.int .i64 0, .int .i64 0, .str ⟨#[]⟩]) := by kernel_rfl
theorem tk56 : tk Try.prog 56 = .struct [(0, 3), (1, 2), (2, 9)] := by kernel_rfl
theorem sz56 : sz Try.prog 56 = some 3 := by kernel_rfl
theorem byt56 : byt Try.prog 56 = some 32 := by kernel_rfl
theorem zero56 : zeroT Try.prog 56 = some (.agg [.int .i64 0, .int .i64 0, .str ⟨#[]⟩]) := by kernel_rfl
theorem tk57 : tk Try.prog 57 = .struct [(0, 9), (1, 56)] := by kernel_rfl
theorem sz57 : sz Try.prog 57 = some 4 := by kernel_rfl
theorem byt57 : byt Try.prog 57 = some 48 := by kernel_rfl
theorem zero57 : zeroT Try.prog 57 = some (.agg [.str ⟨#[]⟩, .int .i64 0, .int .i64 0, .str ⟨#[]⟩]) := by kernel_rfl
theorem tk58 : tk Try.prog 58 = .struct [(0, 9), (1, 56)] := by kernel_rfl
theorem sz58 : sz Try.prog 58 = some 4 := by kernel_rfl
theorem byt58 : byt Try.prog 58 = some 48 := by kernel_rfl
theorem zero58 : zeroT Try.prog 58 = some (.agg [.str ⟨#[]⟩, .int .i64 0, .int .i64 0, .str ⟨#[]⟩]) := by kernel_rfl
theorem tk59 : tk Try.prog 59 = .func := by kernel_rfl
theorem sz59 : sz Try.prog 59 = some 1 := by kernel_rfl
theorem byt59 : byt Try.prog 59 = some 8 := by kernel_rfl
theorem zero59 : zeroT Try.prog 59 = some (.nilFunc) := by kernel_rfl
theorem tk60 : tk Try.prog 60 = .slice 62 := by kernel_rfl
theorem sz60 : sz Try.prog 60 = some 1 := by kernel_rfl
theorem byt60 : byt Try.prog 60 = some 24 := by kernel_rfl
theorem zero60 : zeroT Try.prog 60 = some (.nilSlice) := by kernel_rfl
theorem tk61 : tk Try.prog 61 = .struct [(0, 3), (1, 2), (2, 9), (3, 4)] := by kernel_rfl
theorem sz61 : sz Try.prog 61 = some 4 := by kernel_rfl
theorem byt61 : byt Try.prog 61 = some 40 := by kernel_rfl
theorem zero61 : zeroT Try.prog 61 = some (.agg [.int .i64 0, .int .i64 0, .str ⟨#[]⟩, .bool false]) := by kernel_rfl
theorem tk62 : tk Try.prog 62 = .struct [(0, 3), (1, 2), (2, 9), (3, 4)] := by kernel_rfl
theorem sz62 : sz Try.prog 62 = some 4 := by kernel_rfl
theorem byt62 : byt Try.prog 62 = some 40 := by kernel_rfl
theorem zero62 : zeroT Try.prog 62 = some (.agg [.int .i64 0, .int .i64 0, .str ⟨#[]⟩, .bool false]) := by kernel_rfl
theorem tk63 : tk Try.prog 63 = .func := by kernel_rfl
theorem sz63 : sz Try.prog 63 = some 1 := by kernel_rfl
theorem byt63 : byt Try.prog 63 = some 8 := by kernel_rfl
theorem zero63 : zeroT Try.prog 63 = some (.nilFunc) := by kernel_rfl
theorem tk64 : tk Try.prog 64 = .func := by kernel_rfl
theorem sz64 : sz Try.prog 64 = some 1 := by kernel_rfl
theorem byt64 : byt Try.prog 64 = some 8 := by kernel_rfl
theorem zero64 : zeroT Try.prog 64 = some (.nilFunc) := by kernel_rfl
theorem tk65 : tk Try.prog 65 = .slice 66 := by kernel_rfl
theorem sz65 : sz Try.prog 65 = some 1 := by kernel_rfl
theorem byt65 : byt Try.prog 65 = some 24 := by kernel_rfl
theorem zero65 : zeroT Try.prog 65 = some (.nilSlice) := by kernel_rfl
theorem tk66 : tk Try.prog 66 = .struct [(0, 3), (1, 3)] := by kernel_rfl
theorem sz66 : sz Try.prog 66 = some 2 := by kernel_rfl
theorem byt66 : byt Try.prog 66 = some 16 := by kernel_rfl
theorem zero66 : zeroT Try.prog 66 = some (.agg [.int .i64 0, .int .i64 0]) := by kernel_rfl
theorem tk67 : tk Try.prog 67 = .func := by kernel_rfl
theorem sz67 : sz Try.prog 67 = some 1 := by kernel_rfl
theorem byt67 : byt Try.prog 67 = some 8 := by kernel_rfl
theorem zero67 : zeroT Try.prog 67 = some (.nilFunc) := by kernel_rfl
theorem tk68 : tk Try.prog 68 = .func := by kernel_rfl
theorem sz68 : sz Try.prog 68 = some 1 := by kernel_rfl
theorem byt68 : byt Try.prog 68 = some 8 := by kernel_rfl
theorem zero68 : zeroT Try.prog 68 = some (.nilFunc) := by kernel_rfl
theorem tk69 : tk Try.prog 69 = .func := by kernel_rfl
theorem sz69 : sz Try.prog 69 = some 1 := by kernel_rfl
theorem byt69 : byt Try.prog 69 = some 8 := by kernel_rfl
theorem zero69 : zeroT Try.prog 69 = some (.nilFunc) := by kernel_rfl
theorem tk71 : tk Try.prog 71 = .func := by kernel_rfl
theorem sz71 : sz Try.prog 71 = some 1 := by kernel_rfl
theorem byt71 : byt Try.prog 71 = some 8 := by kernel_rfl
theorem zero71 : zeroT Try.prog 71 = some (.nilFunc) := by kernel_rfl
theorem tk72 : tk Try.prog 72 = .func := by kernel_rfl
theorem sz72 : sz Try.prog 72 = some 1 := by kernel_rfl
theorem byt72 : byt Try.prog 72 = some 8 := by kernel_rfl
theorem zero72 : zeroT Try.prog 72 = some (.nilFunc) := by kernel_rfl
theorem tk74 : tk Try.prog 74 = .func := by kernel_rfl
theorem sz74 : sz Try.prog 74 = some 1 := by kernel_rfl
theorem byt74 : byt Try.prog 74 = some 8 := by kernel_rfl
theorem zero74 : zeroT Try.prog 74 = some (.nilFunc) := by kernel_rfl
theorem tk75 : tk Try.prog 75 = .func := by kernel_rfl
theorem sz75 : sz Try.prog 75 = some 1 := by kernel_rfl
theorem byt75 : byt Try.prog 75 = some 8 := by kernel_rfl
theorem zero75 : zeroT Try.prog 75 = some (.nilFunc) := by kernel_rfl
theorem tk76 : tk Try.prog 76 = .array 8 5 := by kernel_rfl
theorem sz76 : sz Try.prog 76 = some 8 := by kernel_rfl
theorem byt76 : byt Try.prog 76 = some 8 := by kernel_rfl
theorem zero76 : zeroT Try.prog 76 = some (.agg [.int .u8 0, .int .u8 0, .int .u8 0, .int .u8 0, .int .u8 0, .int .u8 0, .int .u8 0, .int .u8 0]) := by kernel_rfl
theorem tk77 : tk Try.prog 77 = .int .u64 := by kernel_rfl
theorem sz77 : sz Try.prog 77 = some 1 := by kernel_rfl
theorem byt77 : byt Try.prog 77 = some 8 := by kernel_rfl
theorem zero77 : zeroT Try.prog 77 = some (.int .u64 0) := by kernel_rfl
theorem tk78 : tk Try.prog 78 = .func := by kernel_rfl
theorem sz78 : sz Try.prog 78 = some 1 := by kernel_rfl
theorem byt78 : byt Try.prog 78 = some 8 := by kernel_rfl
theorem zero78 : zeroT Try.prog 78 = some (.nilFunc) := by kernel_rfl
theorem tk79 : tk Try.prog 79 = .func := by kernel_rfl
theorem sz79 : sz Try.prog 79 = some 1 := by kernel_rfl
theorem byt79 : byt Try.prog 79 = some 8 := by kernel_rfl
theorem zero79 : zeroT Try.prog 79 = some (.nilFunc) := by kernel_rfl
theorem tk80 : tk Try.prog 80 = .func := by kernel_rfl
theorem sz80 : sz Try.prog 80 = some 1 := by kernel_rfl
theorem byt80 : byt Try.prog 80 = some 8 := by kernel_rfl
theorem zero80 : zeroT Try.prog 80 = some (.nilFunc) := by kernel_rfl
theorem tk81 : tk Try.prog 81 = .func := by kernel_rfl
theorem sz81 : sz Try.prog 81 = some 1 := by kernel_rfl
theorem byt81 : byt Try.prog 81 = some 8 := by kernel_rfl
theorem zero81 : zeroT Try.prog 81 = some (.nilFunc) := by kernel_rfl
theorem tk83 : tk Try.prog 83 = .func := by kernel_rfl
theorem sz83 : sz Try.prog 83 = some 1 := by kernel_rfl
theorem byt83 : byt Try.prog 83 = some 8 := by kernel_rfl
theorem zero83 : zeroT Try.prog 83 = some (.nilFunc) := by kernel_rfl
theorem tk84 : tk Try.prog 84 = .func := by kernel_rfl
theorem sz84 : sz Try.prog 84 = some 1 := by kernel_rfl
theorem byt84 : byt Try.prog 84 = some 8 := by kernel_rfl
theorem zero84 : zeroT Try.prog 84 = some (.nilFunc) := by kernel_rfl
theorem tk85 : tk Try.prog 85 = .func := by kernel_rfl
theorem sz85 : sz Try.prog 85 = some 1 := by kernel_rfl
theorem byt85 : byt Try.prog 85 = some 8 := by kernel_rfl
theorem zero85 : zeroT Try.prog 85 = some (.nilFunc) := by kernel_rfl
theorem tk86 : tk Try.prog 86 = .struct [(0, 22), (1, 3), (2, 4)] := by kernel_rfl
theorem sz86 : sz Try.prog 86 = some 3 := by kernel_rfl
theorem byt86 : byt Try.prog 86 = some 40 := by kernel_rfl
theorem zero86 : zeroT Try.prog 86 = some (.agg [.nilSlice, .int .i64 0, .bool false]) := by kernel_rfl
theorem tk87 : tk Try.prog 87 = .struct [(0, 22), (1, 3), (2, 4)] := by kernel_rfl
theorem sz87 : sz Try.prog 87 = some 3 := by kernel_rfl
theorem byt87 : byt Try.prog 87 = some 40 := by kernel_rfl
theorem zero87 : zeroT Try.prog 87 = some (.agg [.nilSlice, .int .i64 0, .bool false]) := by kernel_rfl
theorem tk88 : tk Try.prog 88 = .int .u64 := by kernel_rfl
theorem sz88 : sz Try.prog 88 = some 1 := by kernel_rfl
theorem byt88 : byt Try.prog 88 = some 8 := by kernel_rfl
theorem zero88 : zeroT Try.prog 88 = some (.int .u64 0) := by kernel_rfl
theorem tk89 : tk Try.prog 89 = .func := by kernel_rfl
theorem sz89 : sz Try.prog 89 = some 1 := by kernel_rfl
theorem byt89 : byt Try.prog 89 = some 8 := by kernel_rfl
theorem zero89 : zeroT Try.prog 89 = some (.nilFunc) := by kernel_rfl
theorem tk90 : tk Try.prog 90 = .func := by kernel_rfl
theorem sz90 : sz Try.prog 90 = some 1 := by kernel_rfl
theorem byt90 : byt Try.prog 90 = some 8 := by kernel_rfl
theorem zero90 : zeroT Try.prog 90 = some (.nilFunc) := by kernel_rfl
theorem tk91 : tk Try.prog 91 = .func := by kernel_rfl
theorem sz91 : sz Try.prog 91 = some 1 := by kernel_rfl
theorem byt91 : byt Try.prog 91 = some 8 := by kernel_rfl
theorem zero91 : zeroT Try.prog 91 = some (.nilFunc) := by kernel_rfl
theorem tk92 : tk Try.prog 92 = .slice 2 := by kernel_rfl
theorem sz92 : sz Try.prog 92 = some 1 := by kernel_rfl
theorem byt92 : byt Try.prog 92 = some 24 := by kernel_rfl
theorem zero92 : zeroT Try.prog 92 = some (.nilSlice) := by kernel_rfl
theorem tk93 : tk Try.prog 93 = .ptr 116 := by kernel_rfl
theorem sz93 : sz Try.prog 93 = some 1 := by kernel_rfl
theorem byt93 : byt Try.prog 93 = some 8 := by kernel_rfl
theorem zero93 : zeroT Try.prog 93 = some (.nilPtr) := by kernel_rfl
theorem tk94 : tk Try.prog 94 = .func := by kernel_rfl
theorem sz94 : sz Try.prog 94 = some 1 := by kernel_rfl
theorem byt94 : byt Try.prog 94 = some 8 := by kernel_rfl
theorem zero94 : zeroT Try.prog 94 = some (.nilFunc) := by kernel_rfl
theorem tk95 : tk Try.prog 95 = .slice 3 := by kernel_rfl
theorem sz95 : sz Try.prog 95 = some 1 := by kernel_rfl
theorem byt95 : byt Try.prog 95 = some 24 := by kernel_rfl
theorem zero95 : zeroT Try.prog 95 = some (.nilSlice) := by kernel_rfl
theorem tk96 : tk Try.prog 96 = .func := by kernel_rfl
theorem sz96 : sz Try.prog 96 = some 1 := by kernel_rfl
theorem byt96 : byt Try.prog 96 = some 8 := by kernel_rfl
theorem zero96 : zeroT Try.prog 96 = some (.nilFunc) := by kernel_rfl
theorem tk97 : tk Try.prog 97 = .func := by kernel_rfl
theorem sz97 : sz Try.prog 97 = some 1 := by kernel_rfl
theorem byt97 : byt Try.prog 97 = some 8 := by kernel_rfl
theorem zero97 : zeroT Try.prog 97 = some (.nilFunc) := by kernel_rfl
theorem tk98 : tk Try.prog 98 = .func := by kernel_rfl
theorem sz98 : sz Try.prog 98 = some 1 := by kernel_rfl
theorem byt98 : byt Try.prog 98 = some 8 := by kernel_rfl
theorem zero98 : zeroT Try.prog 98 = some (.nilFunc) := by kernel_rfl
theorem tk99 : tk Try.prog 99 = .func := by kernel_rfl
theorem sz99 : sz Try.prog 99 = some 1 := by kernel_rfl
theorem byt99 : byt Try.prog 99 = some 8 := by kernel_rfl
theorem zero99 : zeroT Try.prog 99 = some (.nilFunc) := by kernel_rfl
theorem tk100 : tk Try.prog 100 = .func := by kernel_rfl
theorem sz100 : sz Try.prog 100 = some 1 := by kernel_rfl
theorem byt100 : byt Try.prog 100 = some 8 := by kernel_rfl
theorem zero100 : zeroT Try.prog 100 = some (.nilFunc) := by kernel_rfl
theorem tk101 : tk Try.prog 101 = .func := by kernel_rfl
theorem sz101 : sz Try.prog 101 = some 1 := by kernel_rfl
theorem byt101 : byt Try.prog 101 = some 8 := by kernel_rfl
theorem zero101 : zeroT Try.prog 101 = some (.nilFunc) := by kernel_rfl
theorem tk102 : tk Try.prog 102 = .struct [(0, 3), (1, 2)] := by kernel_rfl
theorem sz102 : sz Try.prog 102 = some 2 := by kernel_rfl
theorem byt102 : byt Try.prog 102 = some 16 := by kernel_rfl
theorem zero102 : zeroT Try.prog 102 = some (.agg [.int .i64 0, .int .i64 0]) := by kernel_rfl
theorem tk103 : tk Try.prog 103 = .struct [(0, 3), (1, 2)] := by kernel_rfl
theorem sz103 : sz Try.prog 103 = some 2 := by kernel_rfl
theorem byt103 : byt Try.prog 103 = some 16 := by kernel_rfl
theorem zero103 : zeroT Try.prog 103 = some (.agg [.int .i64 0, .int .i64 0]) := by kernel_rfl
theorem tk105 : tk Try.prog 105 = .func := by kernel_rfl
theorem sz105 : sz Try.prog 105 = some 1 := by kernel_rfl
theorem byt105 : byt Try.prog 105 = some 8 := by kernel_rfl
theorem zero105 : zeroT Try.prog 105 = some (.nilFunc) := by kernel_rfl
theorem tk106 : tk Try.prog 106 = .func := by kernel_rfl
theorem sz106 : sz Try.prog 106 = some 1 := by kernel_rfl
theorem byt106 : byt Try.prog 106 = some 8 := by kernel_rfl
theorem zero106 : zeroT Try.prog 106 = some (.nilFunc) := by kernel_rfl
theorem tk107 : tk Try.prog 107 = .slice 22 := by kernel_rfl
theorem sz107 : sz Try.prog 107 = some 1 := by kernel_rfl
theorem byt107 : byt Try.prog 107 = some 24 := by kernel_rfl
theorem zero107 : zeroT Try.prog 107 = some (.nilSlice) := by kernel_rfl
theorem tk108 : tk Try.prog 108 = .func := by kernel_rfl
theorem sz108 : sz Try.prog 108 = some 1 := by kernel_rfl
theorem byt108 : byt Try.prog 108 = some 8 := by kernel_rfl
theorem zero108 : zeroT Try.prog 108 = some (.nilFunc) := by kernel_rfl
theorem tk109 : tk Try.prog 109 = .func := by kernel_rfl
theorem sz109 : sz Try.prog 109 = some 1 := by kernel_rfl
theorem byt109 : byt Try.prog 109 = some 8 := by kernel_rfl
theorem zero109 : zeroT Try.prog 109 = some (.nilFunc) := by kernel_rfl
theorem tk110 : tk Try.prog 110 = .array 3 109 := by kernel_rfl
theorem sz110 : sz Try.prog 110 = some 3 := by kernel_rfl
theorem byt110 : byt Try.prog 110 = some 24 := by kernel_rfl
theorem zero110 : zeroT Try.prog 110 = some (.agg [.nilFunc, .nilFunc, .nilFunc]) := by kernel_rfl
theorem tk111 : tk Try.prog 111 = .map 3 3 := by kernel_rfl
theorem sz111 : sz Try.prog 111 = some 1 := by kernel_rfl
theorem byt111 : byt Try.prog 111 = some 8 := by kernel_rfl
theorem zero111 : zeroT Try.prog 111 = some (.nilMap) := by kernel_rfl
theorem tk112 : tk Try.prog 112 = .slice 103 := by kernel_rfl
theorem sz112 : sz Try.prog 112 = some 1 := by kernel_rfl
theorem byt112 : byt Try.prog 112 = some 24 := by kernel_rfl
theorem zero112 : zeroT Try.prog 112 = some (.nilSlice) := by kernel_rfl
theorem tk113 : tk Try.prog 113 = .struct [(0, 112), (1, 111)] := by kernel_rfl
theorem sz113 : sz Try.prog 113 = some 2 := by kernel_rfl
theorem byt113 : byt Try.prog 113 = some 32 := by kernel_rfl
theorem zero113 : zeroT Try.prog 113 = some (.agg [.nilSlice, .nilMap]) := by kernel_rfl
theorem tk114 : tk Try.prog 114 = .struct [(0, 112), (1, 111)] := by kernel_rfl
theorem sz114 : sz Try.prog 114 = some 2 := by kernel_rfl
theorem byt114 : byt Try.prog 114 = some 32 := by kernel_rfl
theorem zero114 : zeroT Try.prog 114 = some (.agg [.nilSlice, .nilMap]) := by kernel_rfl
theorem tk115 : tk Try.prog 115 = .struct [(0, 114)] := by kernel_rfl
theorem sz115 : sz Try.prog 115 = some 2 := by kernel_rfl
theorem byt115 : byt Try.prog 115 = some 32 := by kernel_rfl
theorem zero115 : zeroT Try.prog 115 = some (.agg [.nilSlice, .nilMap]) := by kernel_rfl
theorem tk116 : tk Try.prog 116 = .struct [(0, 114)] := by kernel_rfl
theorem sz116 : sz Try.prog 116 = some 2 := by kernel_rfl
theorem byt116 : byt Try.prog 116 = some 32 := by kernel_rfl
theorem zero116 : zeroT Try.prog 116 = some (.agg [.nilSlice, .nilMap]) := by kernel_rfl
theorem tk117 : tk Try.prog 117 = .func := by kernel_rfl
theorem sz117 : sz Try.prog 117 = some 1 := by kernel_rfl
theorem byt117 : byt Try.prog 117 = some 8 := by kernel_rfl
theorem zero117 : zeroT Try.prog 117 = some (.nilFunc) := by kernel_rfl
theorem tk118 : tk Try.prog 118 = .func := by kernel_rfl
theorem sz118 : sz Try.prog 118 = some 1 := by kernel_rfl
theorem byt118 : byt Try.prog 118 = some 8 := by kernel_rfl
theorem zero118 : zeroT Try.prog 118 = some (.nilFunc) := by kernel_rfl
theorem tk119 : tk Try.prog 119 = .func := by kernel_rfl
theorem sz119 : sz Try.prog 119 = some 1 := by kernel_rfl
theorem byt119 : byt Try.prog 119 = some 8 := by kernel_rfl
theorem zero119 : zeroT Try.prog 119 = some (.nilFunc) := by kernel_rfl
theorem tk120 : tk Try.prog 120 = .func := by kernel_rfl
theorem sz120 : sz Try.prog 120 = some 1 := by kernel_rfl
theorem byt120 : byt Try.prog 120 = some 8 := by kernel_rfl
theorem zero120 : zeroT Try.prog 120 = some (.nilFunc) := by kernel_rfl
theorem tk121 : tk Try.prog 121 = .ptr 114 := by kernel_rfl
theorem sz121 : sz Try.prog 121 = some 1 := by kernel_rfl
theorem byt121 : byt Try.prog 121 = some 8 := by kernel_rfl
theorem zero121 : zeroT Try.prog 121 = some (.nilPtr) := by kernel_rfl
theorem tk122 : tk Try.prog 122 = .func := by kernel_rfl
theorem sz122 : sz Try.prog 122 = some 1 := by kernel_rfl
theorem byt122 : byt Try.prog 122 = some 8 := by kernel_rfl
theorem zero122 : zeroT Try.prog 122 = some (.nilFunc) := by kernel_rfl
theorem tk123 : tk Try.prog 123 = .func := by kernel_rfl
theorem sz123 : sz Try.prog 123 = some 1 := by kernel_rfl
theorem byt123 : byt Try.prog 123 = some 8 := by kernel_rfl
theorem zero123 : zeroT Try.prog 123 = some (.nilFunc) := by kernel_rfl
theorem tk124 : tk Try.prog 124 = .func := by kernel_rfl
theorem sz124 : sz Try.prog 124 = some 1 := by kernel_rfl
theorem byt124 : byt Try.prog 124 = some 8 := by kernel_rfl
theorem zero124 : zeroT Try.prog 124 = some (.nilFunc) := by kernel_rfl
theorem tk125 : tk Try.prog 125 = .func := by kernel_rfl
theorem sz125 : sz Try.prog 125 = some 1 := by kernel_rfl
theorem byt125 : byt Try.prog 125 = some 8 := by kernel_rfl
theorem zero125 : zeroT Try.prog 125 = some (.nilFunc) := by kernel_rfl
theorem tk126 : tk Try.prog 126 = .func := by kernel_rfl
theorem sz126 : sz Try.prog 126 = some 1 := by kernel_rfl
theorem byt126 : byt Try.prog 126 = some 8 := by kernel_rfl
theorem zero126 : zeroT Try.prog 126 = some (.nilFunc) := by kernel_rfl
theorem tk127 : tk Try.prog 127 = .func := by kernel_rfl
theorem sz127 : sz Try.prog 127 = some 1 := by kernel_rfl
theorem byt127 : byt Try.prog 127 = some 8 := by kernel_rfl
theorem zero127 : zeroT Try.prog 127 = some (.nilFunc) := by kernel_rfl
theorem tk128 : tk Try.prog 128 = .iface := by kernel_rfl
theorem sz128 : sz Try.prog 128 = some 1 := by kernel_rfl
theorem byt128 : byt Try.prog 128 = some 16 := by kernel_rfl
theorem zero128 : zeroT Try.prog 128 = some (.nilIface) := by kernel_rfl
theorem tk129 : tk Try.prog 129 = .iface := by kernel_rfl
theorem sz129 : sz Try.prog 129 = some 1 := by kernel_rfl
theorem byt129 : byt Try.prog 129 = some 16 := by kernel_rfl
theorem zero129 : zeroT Try.prog 129 = some (.nilIface) := by kernel_rfl
theorem tk130 : tk Try.prog 130 = .func := by kernel_rfl
theorem sz130 : sz Try.prog 130 = some 1 := by kernel_rfl
theorem byt130 : byt Try.prog 130 = some 8 := by kernel_rfl
theorem zero130 : zeroT Try.prog 130 = some (.nilFunc) := by kernel_rfl
theorem tk131 : tk Try.prog 131 = .func := by kernel_rfl
theorem sz131 : sz Try.prog 131 = some 1 := by kernel_rfl
theorem byt131 : byt Try.prog 131 = some 8 := by kernel_rfl
theorem zero131 : zeroT Try.prog 131 = some (.nilFunc) := by kernel_rfl
theorem tk132 : tk Try.prog 132 = .func := by kernel_rfl
theorem sz132 : sz Try.prog 132 = some 1 := by kernel_rfl
theorem byt132 : byt Try.prog 132 = some 8 := by kernel_rfl
theorem zero132 : zeroT Try.prog 132 = some (.nilFunc) := by kernel_rfl
theorem tk133 : tk Try.prog 133 = .func := by kernel_rfl
theorem sz133 : sz Try.prog 133 = some 1 := by kernel_rfl
theorem byt133 : byt Try.prog 133 = some 8 := by kernel_rfl
theorem zero133 : zeroT Try.prog 133 = some (.nilFunc) := by kernel_rfl
theorem tk134 : tk Try.prog 134 = .func := by kernel_rfl
theorem sz134 : sz Try.prog 134 = some 1 := by kernel_rfl
theorem byt134 : byt Try.prog 134 = some 8 := by kernel_rfl
theorem zero134 : zeroT Try.prog 134 = some (.nilFunc) := by kernel_rfl
theorem tk135 : tk Try.prog 135 = .struct [(0, 17), (1, 17), (2, 17), (3, 9)] := by kernel_rfl
theorem sz135 : sz Try.prog 135 = some 4 := by kernel_rfl
theorem byt135 : byt Try.prog 135 = some 40 := by kernel_rfl
theorem zero135 : zeroT Try.prog 135 = some (.agg [.nilPtr, .nilPtr, .nilPtr, .str ⟨#[]⟩]) := by kernel_rfl
theorem tk136 : tk Try.prog 136 = .struct [(0, 17), (1, 17), (2, 17), (3, 9)] := by kernel_rfl
theorem sz136 : sz Try.prog 136 = some 4 := by kernel_rfl
theorem byt136 : byt Try.prog 136 = some 40 := by kernel_rfl
theorem zero136 : zeroT Try.prog 136 = some (.agg [.nilPtr, .nilPtr, .nilPtr, .str ⟨#[]⟩]) := by kernel_rfl
theorem tk137 : tk Try.prog 137 = .array 0 16 := by kernel_rfl
theorem sz137 : sz Try.prog 137 = some 0 := by kernel_rfl
theorem byt137 : byt Try.prog 137 = some 0 := by kernel_rfl
theorem zero137 : zeroT Try.prog 137 = some (.agg []) := by kernel_rfl
theorem tk138 : tk Try.prog 138 = .struct [(0, 137)] := by kernel_rfl
theorem sz138 : sz Try.prog 138 = some 0 := by kernel_rfl
theorem byt138 : byt Try.prog 138 = some 0 := by kernel_rfl
theorem zero138 : zeroT Try.prog 138 = some (.agg []) := by kernel_rfl
theorem tk139 : tk Try.prog 139 = .struct [(0, 137)] := by kernel_rfl
theorem sz139 : sz Try.prog 139 = some 0 := by kernel_rfl
theorem byt139 : byt Try.prog 139 = some 0 := by kernel_rfl
theorem zero139 : zeroT Try.prog 139 = some (.agg []) := by kernel_rfl
theorem tk140 : tk Try.prog 140 = .int .u32 := by kernel_rfl
theorem sz140 : sz Try.prog 140 = some 1 := by kernel_rfl
theorem byt140 : byt Try.prog 140 = some 4 := by kernel_rfl
theorem zero140 : zeroT Try.prog 140 = some (.int .u32 0) := by kernel_rfl
theorem tk141 : tk Try.prog 141 = .int .u8 := by kernel_rfl
theorem sz141 : sz Try.prog 141 = some 1 := by kernel_rfl
theorem byt141 : byt Try.prog 141 = some 1 := by kernel_rfl
theorem zero141 : zeroT Try.prog 141 = some (.int .u8 0) := by kernel_rfl
theorem tk142 : tk Try.prog 142 = .int .u8 := by kernel_rfl
theorem sz142 : sz Try.prog 142 = some 1 := by kernel_rfl
theorem byt142 : byt Try.prog 142 = some 1 := by kernel_rfl
theorem zero142 : zeroT Try.prog 142 = some (.int .u8 0) := by kernel_rfl
theorem tk143 : tk Try.prog 143 = .func := by kernel_rfl
theorem sz143 : sz Try.prog 143 = some 1 := by kernel_rfl
theorem byt143 : byt Try.prog 143 = some 8 := by kernel_rfl
theorem zero143 : zeroT Try.prog 143 = some (.nilFunc) := by kernel_rfl
theorem tk144 : tk Try.prog 144 = .ptr 5 := by kernel_rfl
theorem sz144 : sz Try.prog 144 = some 1 := by kernel_rfl
theorem byt144 : byt Try.prog 144 = some 8 := by kernel_rfl
theorem zero144 : zeroT Try.prog 144 = some (.nilPtr) := by kernel_rfl
theorem tk145 : tk Try.prog 145 = .int .i32 := by kernel_rfl
theorem sz145 : sz Try.prog 145 = some 1 := by kernel_rfl
theorem byt145 : byt Try.prog 145 = some 4 := by kernel_rfl
theorem zero145 : zeroT Try.prog 145 = some (.int .i32 0) := by kernel_rfl
theorem tk146 : tk Try.prog 146 = .int .i32 := by kernel_rfl
theorem sz146 : sz Try.prog 146 = some 1 := by kernel_rfl
theorem byt146 : byt Try.prog 146 = some 4 := by kernel_rfl
theorem zero146 : zeroT Try.prog 146 = some (.int .i32 0) := by kernel_rfl
theorem tk147 : tk Try.prog 147 = .struct [(0, 12), (1, 12), (2, 140), (3, 141), (4, 5), (5, 5), (6, 142), (7, 143), (8, 144), (9, 145), (10, 146)] := by kernel_rfl
theorem sz147 : sz Try.prog 147 = some 11 := by kernel_rfl
theorem byt147 : byt Try.prog 147 = some 48 := by kernel_rfl
theorem zero147 : zeroT Try.prog 147 = some (.agg [.int .u64 0, .int .u64 0, .int .u32 0, .int .u8 0, .int .u8 0, .int .u8 0, .int .u8 0, .nilFunc, .nilPtr, .int .i32 0, .int .i32 0]) := by kernel_rfl
theorem tk148 : tk Try.prog 148 = .struct [(0, 12), (1, 12), (2, 140), (3, 141), (4, 5), (5, 5), (6, 142), (7, 143), (8, 144), (9, 145), (10, 146)] := by kernel_rfl
theorem sz148 : sz Try.prog 148 = some 11 := by kernel_rfl
theorem byt148 : byt Try.prog 148 = some 48 := by kernel_rfl
theorem zero148 : zeroT Try.prog 148 = some (.agg [.int .u64 0, .int .u64 0, .int .u32 0, .int .u8 0, .int .u8 0, .int .u8 0, .int .u8 0, .nilFunc, .nilPtr, .int .i32 0, .int .i32 0]) := by kernel_rfl
theorem tk149 : tk Try.prog 149 = .func := by kernel_rfl
theorem sz149 : sz Try.prog 149 = some 1 := by kernel_rfl
theorem byt149 : byt Try.prog 149 = some 8 := by kernel_rfl
theorem zero149 : zeroT Try.prog 149 = some (.nilFunc) := by kernel_rfl
attribute [simp] tk1 sz1 byt1 zero1 tk2 sz2 byt2 zero2 tk3 sz3 byt3 zero3 tk4 sz4 byt4 zero4 tk5 sz5 byt5 zero5 tk6 sz6 byt6 zero6 tk7 sz7 byt7 zero7 tk8 sz8 byt8 zero8 tk9 sz9 byt9 zero9 tk10 sz10 byt10 zero10 tk11 sz11 byt11 zero11 tk12 sz12 byt12 zero12 tk13 sz13 byt13 zero13 tk14 sz14 byt14 zero14 tk15 sz15 byt15 zero15 tk16 sz16 byt16 zero16 tk17 sz17 byt17 zero17 tk18 sz18 byt18 zero18 tk19 sz19 byt19 zero19 tk20 sz20 byt20 zero20 tk21 sz21 byt21 zero21 tk22 sz22 byt22 zero22 tk23 sz23 byt23 zero23 tk24 sz24 byt24 zero24 tk25 sz25 byt25 zero25 tk26 sz26 byt26 zero26 tk27 sz27 byt27 zero27 tk28 sz28 byt28 zero28 tk29 sz29 byt29 zero29 tk30 sz30 byt30 zero30 tk31 sz31 byt31 zero31 tk32 sz32 byt32 zero32 tk33 sz33 byt33 zero33 tk35 sz35 byt35 zero35 tk36 sz36 byt36 zero36 tk37 sz37 byt37 zero37 tk38 sz38 byt38 zero38 tk39 sz39 byt39 zero39 tk40 sz40 byt40 zero40 tk41 sz41 byt41 zero41 tk42 sz42 byt42 zero42 tk43 sz43 byt43 zero43 tk44 sz44 byt44 zero44 tk45 sz45 byt45 zero45 tk46 sz46 byt46 zero46 tk47 sz47 byt47 zero47 tk48 sz48 byt48 zero48 tk49 sz49 byt49 zero49 tk50 sz50 byt50 zero50 tk51 sz51 byt51 zero51 tk52 sz52 byt52 zero52 tk53 sz53 byt53 zero53 tk54 sz54 byt54 zero54 tk55 sz55 byt55 zero55 tk56 sz56 byt56 zero56 tk57 sz57 byt57 zero57 tk58 sz58 byt58 zero58 tk59 sz59 byt59 zero59 tk60 sz60 byt60 zero60 tk61 sz61 byt61 zero61 tk62 sz62 byt62 zero62 tk63 sz63 byt63 zero63 tk64 sz64 byt64 zero64 tk65 sz65 byt65 zero65 tk66 sz66 byt66 zero66 tk67 sz67 byt67 zero67 tk68 sz68 byt68 zero68 tk69 sz69 byt69 zero69 tk71 sz71 byt71 zero71 tk72 sz72 byt72 zero72 tk74 sz74 byt74 zero74 tk75 sz75 byt75 zero75 tk76 sz76 byt76 zero76 tk77 sz77 byt77 zero77 tk78 sz78 byt78 zero78 tk79 sz79 byt79 zero79 tk80 sz80 byt80 zero80 tk81 sz81 byt81 zero81 tk83 sz83 byt83 zero83 tk84 sz84 byt84 zero84 tk85 sz85 byt85 zero85 tk86 sz86 byt86 zero86 tk87 sz87 byt87 zero87 tk88 sz88 byt88 zero88 tk89 sz89 byt89 zero89 tk90 sz90 byt90 zero90 tk91 sz91 byt91 zero91 tk92 sz92 byt92 zero92 tk93 sz93 byt93 zero93 tk94 sz94 byt94 zero94 tk95 sz95 byt95 zero95 tk96 sz96 byt96 zero96 tk97 sz97 byt97 zero97 tk98 sz98 byt98 zero98 tk99 sz99 byt99 zero99 tk100 sz100 byt100 zero100 tk101 sz101 byt101 zero101 tk102 sz102 byt102 zero102 tk103 sz103 byt103 zero103 tk105 sz105 byt105 zero105 tk106 sz106 byt106 zero106 tk107 sz107 byt107 zero107 tk108 sz108 byt108 zero108 tk109 sz109 byt109 zero109 tk110 sz110 byt110 zero110 tk111 sz111 byt111 zero111 tk112 sz112 byt112 zero112 tk113 sz113 byt113 zero113 tk114 sz114 byt114 zero114 tk115 sz115 byt115 zero115 tk116 sz116 byt116 zero116 tk117 sz117 byt117 zero117 tk118 sz118 byt118 zero118 tk119 sz119 byt119 zero119 tk120 sz120 byt120 zero120 tk121 sz121 byt121 zero121 tk122 sz122 byt122 zero122 tk123 sz123 byt123 zero123 tk124 sz124 byt124 zero124 tk125 sz125 byt125 zero125 tk126 sz126 byt126 zero126 tk127 sz127 byt127 zero127 tk128 sz128 byt128 zero128 tk129 sz129 byt129 zero129 tk130 sz130 byt130 zero130 tk131 sz131 byt131 zero131 tk132 sz132 byt132 zero132 tk133 sz133 byt133 zero133 tk134 sz134 byt134 zero134 tk135 sz135 byt135 zero135 tk136 sz136 byt136 zero136 tk137 sz137 byt137 zero137 tk138 sz138 byt138 zero138 tk139 sz139 byt139 zero139 tk140 sz140 byt140 zero140 tk141 sz141 byt141 zero141 tk142 sz142 byt142 zero142 tk143 sz143 byt143 zero143 tk144 sz144 byt144 zero144 tk145 sz145 byt145 zero145 tk146 sz146 byt146 zero146 tk147 sz147 byt147 zero147 tk148 sz148 byt148 zero148 tk149 sz149 byt149 zero149
end Go.Proofs.Ytccajagfgdchlaa
