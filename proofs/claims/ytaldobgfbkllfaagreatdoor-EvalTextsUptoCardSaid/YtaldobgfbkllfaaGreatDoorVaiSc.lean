import Derived.Test.YtaldobgfbkllfaaGreatDoorVaiD
import Derived.Test.YtaldobgfbkllfaaGreatDoorRows
import Derived.Test.YtaldobgfbkllfaaGreatDoorVaiE
import Derived.Lib.ParseIntBMem
import Derived.Shelf.Small.Strs
import Derived.Shelf.Strconv.ParseIntPublic10
import Derived.Shelf.Strconv.Itoa4
import Derived.Lib.AppendIntMem
import Derived.KernelRfl
set_option linter.unusedSimpArgs false
set_option linter.unusedVariables false
set_option linter.unusedSectionVars false
/-
  BY PROGRAM (wip/vai/Gen.lean): what the seat's types are.
-/
namespace Go.Proofs.YtaldobgfbkllfaaGreatDoor
open Vai
theorem tk1 : tk Tryz.prog 1 = .func := by kernel_rfl
theorem sz1 : sz Tryz.prog 1 = some 1 := by kernel_rfl
theorem byt1 : byt Tryz.prog 1 = some 8 := by kernel_rfl
theorem zero1 : zeroT Tryz.prog 1 = some (.nilFunc) := by kernel_rfl
theorem tk2 : tk Tryz.prog 2 = .int .i64 := by kernel_rfl
theorem sz2 : sz Tryz.prog 2 = some 1 := by kernel_rfl
theorem byt2 : byt Tryz.prog 2 = some 8 := by kernel_rfl
theorem zero2 : zeroT Tryz.prog 2 = some (.int .i64 0) := by kernel_rfl
theorem tk3 : tk Tryz.prog 3 = .int .i64 := by kernel_rfl
theorem sz3 : sz Tryz.prog 3 = some 1 := by kernel_rfl
theorem byt3 : byt Tryz.prog 3 = some 8 := by kernel_rfl
theorem zero3 : zeroT Tryz.prog 3 = some (.int .i64 0) := by kernel_rfl
theorem tk4 : tk Tryz.prog 4 = .bool := by kernel_rfl
theorem sz4 : sz Tryz.prog 4 = some 1 := by kernel_rfl
theorem byt4 : byt Tryz.prog 4 = some 1 := by kernel_rfl
theorem zero4 : zeroT Tryz.prog 4 = some (.bool false) := by kernel_rfl
theorem tk5 : tk Tryz.prog 5 = .int .u8 := by kernel_rfl
theorem sz5 : sz Tryz.prog 5 = some 1 := by kernel_rfl
theorem byt5 : byt Tryz.prog 5 = some 1 := by kernel_rfl
theorem zero5 : zeroT Tryz.prog 5 = some (.int .u8 0) := by kernel_rfl
theorem tk6 : tk Tryz.prog 6 = .int .u8 := by kernel_rfl
theorem sz6 : sz Tryz.prog 6 = some 1 := by kernel_rfl
theorem byt6 : byt Tryz.prog 6 = some 1 := by kernel_rfl
theorem zero6 : zeroT Tryz.prog 6 = some (.int .u8 0) := by kernel_rfl
theorem tk7 : tk Tryz.prog 7 = .struct [(0, 2), (1, 3), (2, 4), (3, 6)] := by kernel_rfl
theorem sz7 : sz Tryz.prog 7 = some 4 := by kernel_rfl
theorem byt7 : byt Tryz.prog 7 = some 24 := by kernel_rfl
theorem zero7 : zeroT Tryz.prog 7 = some (.agg [.int .i64 0, .int .i64 0, .bool false, .int .u8 0]) := by kernel_rfl
theorem tk8 : tk Tryz.prog 8 = .struct [(0, 2), (1, 3), (2, 4), (3, 6)] := by kernel_rfl
theorem sz8 : sz Tryz.prog 8 = some 4 := by kernel_rfl
theorem byt8 : byt Tryz.prog 8 = some 24 := by kernel_rfl
theorem zero8 : zeroT Tryz.prog 8 = some (.agg [.int .i64 0, .int .i64 0, .bool false, .int .u8 0]) := by kernel_rfl
theorem tk9 : tk Tryz.prog 9 = .str := by kernel_rfl
theorem sz9 : sz Tryz.prog 9 = some 1 := by kernel_rfl
theorem byt9 : byt Tryz.prog 9 = some 16 := by kernel_rfl
theorem zero9 : zeroT Tryz.prog 9 = some (.str ⟨#[]⟩) := by kernel_rfl
theorem tk10 : tk Tryz.prog 10 = .str := by kernel_rfl
theorem sz10 : sz Tryz.prog 10 = some 1 := by kernel_rfl
theorem byt10 : byt Tryz.prog 10 = some 16 := by kernel_rfl
theorem zero10 : zeroT Tryz.prog 10 = some (.str ⟨#[]⟩) := by kernel_rfl
theorem tk11 : tk Tryz.prog 11 = .str := by kernel_rfl
theorem sz11 : sz Tryz.prog 11 = some 1 := by kernel_rfl
theorem byt11 : byt Tryz.prog 11 = some 16 := by kernel_rfl
theorem zero11 : zeroT Tryz.prog 11 = some (.str ⟨#[]⟩) := by kernel_rfl
theorem tk12 : tk Tryz.prog 12 = .int .u64 := by kernel_rfl
theorem sz12 : sz Tryz.prog 12 = some 1 := by kernel_rfl
theorem byt12 : byt Tryz.prog 12 = some 8 := by kernel_rfl
theorem zero12 : zeroT Tryz.prog 12 = some (.int .u64 0) := by kernel_rfl
theorem tk13 : tk Tryz.prog 13 = .struct [(0, 9), (1, 12)] := by kernel_rfl
theorem sz13 : sz Tryz.prog 13 = some 2 := by kernel_rfl
theorem byt13 : byt Tryz.prog 13 = some 24 := by kernel_rfl
theorem zero13 : zeroT Tryz.prog 13 = some (.agg [.str ⟨#[]⟩, .int .u64 0]) := by kernel_rfl
theorem tk14 : tk Tryz.prog 14 = .struct [(0, 9), (1, 12)] := by kernel_rfl
theorem sz14 : sz Tryz.prog 14 = some 2 := by kernel_rfl
theorem byt14 : byt Tryz.prog 14 = some 24 := by kernel_rfl
theorem zero14 : zeroT Tryz.prog 14 = some (.agg [.str ⟨#[]⟩, .int .u64 0]) := by kernel_rfl
theorem tk15 : tk Tryz.prog 15 = .ptr 286 := by kernel_rfl
theorem sz15 : sz Tryz.prog 15 = some 1 := by kernel_rfl
theorem byt15 : byt Tryz.prog 15 = some 8 := by kernel_rfl
theorem zero15 : zeroT Tryz.prog 15 = some (.nilPtr) := by kernel_rfl
theorem tk16 : tk Tryz.prog 16 = .ptr 289 := by kernel_rfl
theorem sz16 : sz Tryz.prog 16 = some 1 := by kernel_rfl
theorem byt16 : byt Tryz.prog 16 = some 8 := by kernel_rfl
theorem zero16 : zeroT Tryz.prog 16 = some (.nilPtr) := by kernel_rfl
theorem tk17 : tk Tryz.prog 17 = .ptr 296 := by kernel_rfl
theorem sz17 : sz Tryz.prog 17 = some 1 := by kernel_rfl
theorem byt17 : byt Tryz.prog 17 = some 8 := by kernel_rfl
theorem zero17 : zeroT Tryz.prog 17 = some (.nilPtr) := by kernel_rfl
theorem tk18 : tk Tryz.prog 18 = .struct [(0, 17)] := by kernel_rfl
theorem sz18 : sz Tryz.prog 18 = some 1 := by kernel_rfl
theorem byt18 : byt Tryz.prog 18 = some 8 := by kernel_rfl
theorem zero18 : zeroT Tryz.prog 18 = some (.agg [.nilPtr]) := by kernel_rfl
theorem tk19 : tk Tryz.prog 19 = .struct [(0, 17)] := by kernel_rfl
theorem sz19 : sz Tryz.prog 19 = some 1 := by kernel_rfl
theorem byt19 : byt Tryz.prog 19 = some 8 := by kernel_rfl
theorem zero19 : zeroT Tryz.prog 19 = some (.agg [.nilPtr]) := by kernel_rfl
theorem tk20 : tk Tryz.prog 20 = .iface := by kernel_rfl
theorem sz20 : sz Tryz.prog 20 = some 1 := by kernel_rfl
theorem byt20 : byt Tryz.prog 20 = some 16 := by kernel_rfl
theorem zero20 : zeroT Tryz.prog 20 = some (.nilIface) := by kernel_rfl
theorem tk21 : tk Tryz.prog 21 = .int .i32 := by kernel_rfl
theorem sz21 : sz Tryz.prog 21 = some 1 := by kernel_rfl
theorem byt21 : byt Tryz.prog 21 = some 4 := by kernel_rfl
theorem zero21 : zeroT Tryz.prog 21 = some (.int .i32 0) := by kernel_rfl
theorem tk22 : tk Tryz.prog 22 = .slice 57 := by kernel_rfl
theorem sz22 : sz Tryz.prog 22 = some 1 := by kernel_rfl
theorem byt22 : byt Tryz.prog 22 = some 24 := by kernel_rfl
theorem zero22 : zeroT Tryz.prog 22 = some (.nilSlice) := by kernel_rfl
theorem tk23 : tk Tryz.prog 23 = .slice 38 := by kernel_rfl
theorem sz23 : sz Tryz.prog 23 = some 1 := by kernel_rfl
theorem byt23 : byt Tryz.prog 23 = some 24 := by kernel_rfl
theorem zero23 : zeroT Tryz.prog 23 = some (.nilSlice) := by kernel_rfl
theorem tk24 : tk Tryz.prog 24 = .func := by kernel_rfl
theorem sz24 : sz Tryz.prog 24 = some 1 := by kernel_rfl
theorem byt24 : byt Tryz.prog 24 = some 8 := by kernel_rfl
theorem zero24 : zeroT Tryz.prog 24 = some (.nilFunc) := by kernel_rfl
theorem tk25 : tk Tryz.prog 25 = .struct [(0, 3), (1, 2), (2, 9)] := by kernel_rfl
theorem sz25 : sz Tryz.prog 25 = some 3 := by kernel_rfl
theorem byt25 : byt Tryz.prog 25 = some 32 := by kernel_rfl
theorem zero25 : zeroT Tryz.prog 25 = some (.agg [.int .i64 0, .int .i64 0, .str ⟨#[]⟩]) := by kernel_rfl
theorem tk26 : tk Tryz.prog 26 = .struct [(0, 3), (1, 2), (2, 9)] := by kernel_rfl
theorem sz26 : sz Tryz.prog 26 = some 3 := by kernel_rfl
theorem byt26 : byt Tryz.prog 26 = some 32 := by kernel_rfl
theorem zero26 : zeroT Tryz.prog 26 = some (.agg [.int .i64 0, .int .i64 0, .str ⟨#[]⟩]) := by kernel_rfl
theorem tk27 : tk Tryz.prog 27 = .int .i64 := by kernel_rfl
theorem sz27 : sz Tryz.prog 27 = some 1 := by kernel_rfl
theorem byt27 : byt Tryz.prog 27 = some 8 := by kernel_rfl
theorem zero27 : zeroT Tryz.prog 27 = some (.int .i64 0) := by kernel_rfl
theorem tk29 : tk Tryz.prog 29 = .func := by kernel_rfl
theorem sz29 : sz Tryz.prog 29 = some 1 := by kernel_rfl
theorem byt29 : byt Tryz.prog 29 = some 8 := by kernel_rfl
theorem zero29 : zeroT Tryz.prog 29 = some (.nilFunc) := by kernel_rfl
theorem tk31 : tk Tryz.prog 31 = .func := by kernel_rfl
theorem sz31 : sz Tryz.prog 31 = some 1 := by kernel_rfl
theorem byt31 : byt Tryz.prog 31 = some 8 := by kernel_rfl
theorem zero31 : zeroT Tryz.prog 31 = some (.nilFunc) := by kernel_rfl
theorem tk32 : tk Tryz.prog 32 = .slice 35 := by kernel_rfl
theorem sz32 : sz Tryz.prog 32 = some 1 := by kernel_rfl
theorem byt32 : byt Tryz.prog 32 = some 24 := by kernel_rfl
theorem zero32 : zeroT Tryz.prog 32 = some (.nilSlice) := by kernel_rfl
theorem tk33 : tk Tryz.prog 33 = .func := by kernel_rfl
theorem sz33 : sz Tryz.prog 33 = some 1 := by kernel_rfl
theorem byt33 : byt Tryz.prog 33 = some 8 := by kernel_rfl
theorem zero33 : zeroT Tryz.prog 33 = some (.nilFunc) := by kernel_rfl
theorem tk34 : tk Tryz.prog 34 = .struct [(0, 9), (1, 3)] := by kernel_rfl
theorem sz34 : sz Tryz.prog 34 = some 2 := by kernel_rfl
theorem byt34 : byt Tryz.prog 34 = some 24 := by kernel_rfl
theorem zero34 : zeroT Tryz.prog 34 = some (.agg [.str ⟨#[]⟩, .int .i64 0]) := by kernel_rfl
theorem tk35 : tk Tryz.prog 35 = .struct [(0, 9), (1, 3)] := by kernel_rfl
theorem sz35 : sz Tryz.prog 35 = some 2 := by kernel_rfl
theorem byt35 : byt Tryz.prog 35 = some 24 := by kernel_rfl
theorem zero35 : zeroT Tryz.prog 35 = some (.agg [.str ⟨#[]⟩, .int .i64 0]) := by kernel_rfl
theorem tk36 : tk Tryz.prog 36 = .func := by kernel_rfl
theorem sz36 : sz Tryz.prog 36 = some 1 := by kernel_rfl
theorem byt36 : byt Tryz.prog 36 = some 8 := by kernel_rfl
theorem zero36 : zeroT Tryz.prog 36 = some (.nilFunc) := by kernel_rfl
theorem tk37 : tk Tryz.prog 37 = .struct [(0, 9), (1, 26)] := by kernel_rfl
theorem sz37 : sz Tryz.prog 37 = some 4 := by kernel_rfl
theorem byt37 : byt Tryz.prog 37 = some 48 := by kernel_rfl
theorem zero37 : zeroT Tryz.prog 37 = some (.agg [.str ⟨#[]⟩, .int .i64 0, .int .i64 0, .str ⟨#[]⟩]) := by kernel_rfl
theorem tk38 : tk Tryz.prog 38 = .struct [(0, 9), (1, 26)] := by kernel_rfl
theorem sz38 : sz Tryz.prog 38 = some 4 := by kernel_rfl
theorem byt38 : byt Tryz.prog 38 = some 48 := by kernel_rfl
theorem zero38 : zeroT Tryz.prog 38 = some (.agg [.str ⟨#[]⟩, .int .i64 0, .int .i64 0, .str ⟨#[]⟩]) := by kernel_rfl
theorem tk40 : tk Tryz.prog 40 = .func := by kernel_rfl
theorem sz40 : sz Tryz.prog 40 = some 1 := by kernel_rfl
theorem byt40 : byt Tryz.prog 40 = some 8 := by kernel_rfl
theorem zero40 : zeroT Tryz.prog 40 = some (.nilFunc) := by kernel_rfl
theorem tk41 : tk Tryz.prog 41 = .func := by kernel_rfl
theorem sz41 : sz Tryz.prog 41 = some 1 := by kernel_rfl
theorem byt41 : byt Tryz.prog 41 = some 8 := by kernel_rfl
theorem zero41 : zeroT Tryz.prog 41 = some (.nilFunc) := by kernel_rfl
theorem tk43 : tk Tryz.prog 43 = .func := by kernel_rfl
theorem sz43 : sz Tryz.prog 43 = some 1 := by kernel_rfl
theorem byt43 : byt Tryz.prog 43 = some 8 := by kernel_rfl
theorem zero43 : zeroT Tryz.prog 43 = some (.nilFunc) := by kernel_rfl
theorem tk45 : tk Tryz.prog 45 = .func := by kernel_rfl
theorem sz45 : sz Tryz.prog 45 = some 1 := by kernel_rfl
theorem byt45 : byt Tryz.prog 45 = some 8 := by kernel_rfl
theorem zero45 : zeroT Tryz.prog 45 = some (.nilFunc) := by kernel_rfl
theorem tk47 : tk Tryz.prog 47 = .func := by kernel_rfl
theorem sz47 : sz Tryz.prog 47 = some 1 := by kernel_rfl
theorem byt47 : byt Tryz.prog 47 = some 8 := by kernel_rfl
theorem zero47 : zeroT Tryz.prog 47 = some (.nilFunc) := by kernel_rfl
theorem tk48 : tk Tryz.prog 48 = .func := by kernel_rfl
theorem sz48 : sz Tryz.prog 48 = some 1 := by kernel_rfl
theorem byt48 : byt Tryz.prog 48 = some 8 := by kernel_rfl
theorem zero48 : zeroT Tryz.prog 48 = some (.nilFunc) := by kernel_rfl
theorem tk49 : tk Tryz.prog 49 = .func := by kernel_rfl
theorem sz49 : sz Tryz.prog 49 = some 1 := by kernel_rfl
theorem byt49 : byt Tryz.prog 49 = some 8 := by kernel_rfl
theorem zero49 : zeroT Tryz.prog 49 = some (.nilFunc) := by kernel_rfl
theorem tk50 : tk Tryz.prog 50 = .func := by kernel_rfl
theorem sz50 : sz Tryz.prog 50 = some 1 := by kernel_rfl
theorem byt50 : byt Tryz.prog 50 = some 8 := by kernel_rfl
theorem zero50 : zeroT Tryz.prog 50 = some (.nilFunc) := by kernel_rfl
theorem tk51 : tk Tryz.prog 51 = .func := by kernel_rfl
theorem sz51 : sz Tryz.prog 51 = some 1 := by kernel_rfl
theorem byt51 : byt Tryz.prog 51 = some 8 := by kernel_rfl
theorem zero51 : zeroT Tryz.prog 51 = some (.nilFunc) := by kernel_rfl
theorem tk52 : tk Tryz.prog 52 = .func := by kernel_rfl
theorem sz52 : sz Tryz.prog 52 = some 1 := by kernel_rfl
theorem byt52 : byt Tryz.prog 52 = some 8 := by kernel_rfl
theorem zero52 : zeroT Tryz.prog 52 = some (.nilFunc) := by kernel_rfl
theorem tk53 : tk Tryz.prog 53 = .func := by kernel_rfl
theorem sz53 : sz Tryz.prog 53 = some 1 := by kernel_rfl
theorem byt53 : byt Tryz.prog 53 = some 8 := by kernel_rfl
theorem zero53 : zeroT Tryz.prog 53 = some (.nilFunc) := by kernel_rfl
theorem tk54 : tk Tryz.prog 54 = .func := by kernel_rfl
theorem sz54 : sz Tryz.prog 54 = some 1 := by kernel_rfl
theorem byt54 : byt Tryz.prog 54 = some 8 := by kernel_rfl
theorem zero54 : zeroT Tryz.prog 54 = some (.nilFunc) := by kernel_rfl
theorem tk55 : tk Tryz.prog 55 = .func := by kernel_rfl
theorem sz55 : sz Tryz.prog 55 = some 1 := by kernel_rfl
theorem byt55 : byt Tryz.prog 55 = some 8 := by kernel_rfl
theorem zero55 : zeroT Tryz.prog 55 = some (.nilFunc) := by kernel_rfl
theorem tk56 : tk Tryz.prog 56 = .struct [(0, 3), (1, 3), (2, 3), (3, 3), (4, 26), (7, 9), (8, 3)] := by kernel_rfl
theorem sz56 : sz Tryz.prog 56 = some 9 := by kernel_rfl
theorem byt56 : byt Tryz.prog 56 = some 88 := by kernel_rfl
theorem zero56 : zeroT Tryz.prog 56 = some (.agg [.int .i64 0, .int .i64 0, .int .i64 0, .int .i64 0, .int .i64 0, .int .i64 0, .str ⟨#[]⟩, .str ⟨#[]⟩, .int .i64 0]) := by kernel_rfl
theorem tk57 : tk Tryz.prog 57 = .struct [(0, 3), (1, 3), (2, 3), (3, 3), (4, 26), (7, 9), (8, 3)] := by kernel_rfl
theorem sz57 : sz Tryz.prog 57 = some 9 := by kernel_rfl
theorem byt57 : byt Tryz.prog 57 = some 88 := by kernel_rfl
theorem zero57 : zeroT Tryz.prog 57 = some (.agg [.int .i64 0, .int .i64 0, .int .i64 0, .int .i64 0, .int .i64 0, .int .i64 0, .str ⟨#[]⟩, .str ⟨#[]⟩, .int .i64 0]) := by kernel_rfl
theorem tk58 : tk Tryz.prog 58 = .func := by kernel_rfl
theorem sz58 : sz Tryz.prog 58 = some 1 := by kernel_rfl
theorem byt58 : byt Tryz.prog 58 = some 8 := by kernel_rfl
theorem zero58 : zeroT Tryz.prog 58 = some (.nilFunc) := by kernel_rfl
theorem tk59 : tk Tryz.prog 59 = .func := by kernel_rfl
theorem sz59 : sz Tryz.prog 59 = some 1 := by kernel_rfl
theorem byt59 : byt Tryz.prog 59 = some 8 := by kernel_rfl
theorem zero59 : zeroT Tryz.prog 59 = some (.nilFunc) := by kernel_rfl
theorem tk60 : tk Tryz.prog 60 = .slice 3 := by kernel_rfl
theorem sz60 : sz Tryz.prog 60 = some 1 := by kernel_rfl
theorem byt60 : byt Tryz.prog 60 = some 24 := by kernel_rfl
theorem zero60 : zeroT Tryz.prog 60 = some (.nilSlice) := by kernel_rfl
theorem tk61 : tk Tryz.prog 61 = .array 13 9 := by kernel_rfl
theorem sz61 : sz Tryz.prog 61 = some 13 := by kernel_rfl
theorem byt61 : byt Tryz.prog 61 = some 208 := by kernel_rfl
theorem zero61 : zeroT Tryz.prog 61 = some (.agg [.str ⟨#[]⟩, .str ⟨#[]⟩, .str ⟨#[]⟩, .str ⟨#[]⟩, .str ⟨#[]⟩, .str ⟨#[]⟩, .str ⟨#[]⟩, .str ⟨#[]⟩, .str ⟨#[]⟩, .str ⟨#[]⟩, .str ⟨#[]⟩, .str ⟨#[]⟩, .str ⟨#[]⟩]) := by kernel_rfl
theorem tk62 : tk Tryz.prog 62 = .func := by kernel_rfl
theorem sz62 : sz Tryz.prog 62 = some 1 := by kernel_rfl
theorem byt62 : byt Tryz.prog 62 = some 8 := by kernel_rfl
theorem zero62 : zeroT Tryz.prog 62 = some (.nilFunc) := by kernel_rfl
theorem tk63 : tk Tryz.prog 63 = .struct [(0, 3), (1, 3)] := by kernel_rfl
theorem sz63 : sz Tryz.prog 63 = some 2 := by kernel_rfl
theorem byt63 : byt Tryz.prog 63 = some 16 := by kernel_rfl
theorem zero63 : zeroT Tryz.prog 63 = some (.agg [.int .i64 0, .int .i64 0]) := by kernel_rfl
theorem tk64 : tk Tryz.prog 64 = .struct [(0, 3), (1, 3)] := by kernel_rfl
theorem sz64 : sz Tryz.prog 64 = some 2 := by kernel_rfl
theorem byt64 : byt Tryz.prog 64 = some 16 := by kernel_rfl
theorem zero64 : zeroT Tryz.prog 64 = some (.agg [.int .i64 0, .int .i64 0]) := by kernel_rfl
theorem tk66 : tk Tryz.prog 66 = .func := by kernel_rfl
theorem sz66 : sz Tryz.prog 66 = some 1 := by kernel_rfl
theorem byt66 : byt Tryz.prog 66 = some 8 := by kernel_rfl
theorem zero66 : zeroT Tryz.prog 66 = some (.nilFunc) := by kernel_rfl
theorem tk67 : tk Tryz.prog 67 = .slice 106 := by kernel_rfl
theorem sz67 : sz Tryz.prog 67 = some 1 := by kernel_rfl
theorem byt67 : byt Tryz.prog 67 = some 24 := by kernel_rfl
theorem zero67 : zeroT Tryz.prog 67 = some (.nilSlice) := by kernel_rfl
theorem tk69 : tk Tryz.prog 69 = .func := by kernel_rfl
theorem sz69 : sz Tryz.prog 69 = some 1 := by kernel_rfl
theorem byt69 : byt Tryz.prog 69 = some 8 := by kernel_rfl
theorem zero69 : zeroT Tryz.prog 69 = some (.nilFunc) := by kernel_rfl
theorem tk71 : tk Tryz.prog 71 = .func := by kernel_rfl
theorem sz71 : sz Tryz.prog 71 = some 1 := by kernel_rfl
theorem byt71 : byt Tryz.prog 71 = some 8 := by kernel_rfl
theorem zero71 : zeroT Tryz.prog 71 = some (.nilFunc) := by kernel_rfl
theorem tk72 : tk Tryz.prog 72 = .func := by kernel_rfl
theorem sz72 : sz Tryz.prog 72 = some 1 := by kernel_rfl
theorem byt72 : byt Tryz.prog 72 = some 8 := by kernel_rfl
theorem zero72 : zeroT Tryz.prog 72 = some (.nilFunc) := by kernel_rfl
theorem tk73 : tk Tryz.prog 73 = .func := by kernel_rfl
theorem sz73 : sz Tryz.prog 73 = some 1 := by kernel_rfl
theorem byt73 : byt Tryz.prog 73 = some 8 := by kernel_rfl
theorem zero73 : zeroT Tryz.prog 73 = some (.nilFunc) := by kernel_rfl
theorem tk74 : tk Tryz.prog 74 = .func := by kernel_rfl
theorem sz74 : sz Tryz.prog 74 = some 1 := by kernel_rfl
theorem byt74 : byt Tryz.prog 74 = some 8 := by kernel_rfl
theorem zero74 : zeroT Tryz.prog 74 = some (.nilFunc) := by kernel_rfl
theorem tk75 : tk Tryz.prog 75 = .func := by kernel_rfl
theorem sz75 : sz Tryz.prog 75 = some 1 := by kernel_rfl
theorem byt75 : byt Tryz.prog 75 = some 8 := by kernel_rfl
theorem zero75 : zeroT Tryz.prog 75 = some (.nilFunc) := by kernel_rfl
theorem tk76 : tk Tryz.prog 76 = .struct [(0, 22), (1, 23)] := by kernel_rfl
theorem sz76 : sz Tryz.prog 76 = some 2 := by kernel_rfl
theorem byt76 : byt Tryz.prog 76 = some 48 := by kernel_rfl
theorem zero76 : zeroT Tryz.prog 76 = some (.agg [.nilSlice, .nilSlice]) := by kernel_rfl
theorem tk77 : tk Tryz.prog 77 = .struct [(0, 22), (1, 23)] := by kernel_rfl
theorem sz77 : sz Tryz.prog 77 = some 2 := by kernel_rfl
theorem byt77 : byt Tryz.prog 77 = some 48 := by kernel_rfl
theorem zero77 : zeroT Tryz.prog 77 = some (.agg [.nilSlice, .nilSlice]) := by kernel_rfl
theorem tk78 : tk Tryz.prog 78 = .func := by kernel_rfl
theorem sz78 : sz Tryz.prog 78 = some 1 := by kernel_rfl
theorem byt78 : byt Tryz.prog 78 = some 8 := by kernel_rfl
theorem zero78 : zeroT Tryz.prog 78 = some (.nilFunc) := by kernel_rfl
theorem tk79 : tk Tryz.prog 79 = .func := by kernel_rfl
theorem sz79 : sz Tryz.prog 79 = some 1 := by kernel_rfl
theorem byt79 : byt Tryz.prog 79 = some 8 := by kernel_rfl
theorem zero79 : zeroT Tryz.prog 79 = some (.nilFunc) := by kernel_rfl
theorem tk80 : tk Tryz.prog 80 = .slice 134 := by kernel_rfl
theorem sz80 : sz Tryz.prog 80 = some 1 := by kernel_rfl
theorem byt80 : byt Tryz.prog 80 = some 24 := by kernel_rfl
theorem zero80 : zeroT Tryz.prog 80 = some (.nilSlice) := by kernel_rfl
theorem tk82 : tk Tryz.prog 82 = .func := by kernel_rfl
theorem sz82 : sz Tryz.prog 82 = some 1 := by kernel_rfl
theorem byt82 : byt Tryz.prog 82 = some 8 := by kernel_rfl
theorem zero82 : zeroT Tryz.prog 82 = some (.nilFunc) := by kernel_rfl
theorem tk83 : tk Tryz.prog 83 = .ptr 85 := by kernel_rfl
theorem sz83 : sz Tryz.prog 83 = some 1 := by kernel_rfl
theorem byt83 : byt Tryz.prog 83 = some 8 := by kernel_rfl
theorem zero83 : zeroT Tryz.prog 83 = some (.nilPtr) := by kernel_rfl
theorem tk84 : tk Tryz.prog 84 = .struct [(0, 9), (1, 80), (2, 3), (3, 22)] := by kernel_rfl
theorem sz84 : sz Tryz.prog 84 = some 4 := by kernel_rfl
theorem byt84 : byt Tryz.prog 84 = some 72 := by kernel_rfl
theorem zero84 : zeroT Tryz.prog 84 = some (.agg [.str ⟨#[]⟩, .nilSlice, .int .i64 0, .nilSlice]) := by kernel_rfl
theorem tk85 : tk Tryz.prog 85 = .struct [(0, 9), (1, 80), (2, 3), (3, 22)] := by kernel_rfl
theorem sz85 : sz Tryz.prog 85 = some 4 := by kernel_rfl
theorem byt85 : byt Tryz.prog 85 = some 72 := by kernel_rfl
theorem zero85 : zeroT Tryz.prog 85 = some (.agg [.str ⟨#[]⟩, .nilSlice, .int .i64 0, .nilSlice]) := by kernel_rfl
theorem tk86 : tk Tryz.prog 86 = .struct [(0, 3), (1, 27)] := by kernel_rfl
theorem sz86 : sz Tryz.prog 86 = some 2 := by kernel_rfl
theorem byt86 : byt Tryz.prog 86 = some 16 := by kernel_rfl
theorem zero86 : zeroT Tryz.prog 86 = some (.agg [.int .i64 0, .int .i64 0]) := by kernel_rfl
theorem tk87 : tk Tryz.prog 87 = .struct [(0, 3), (1, 27)] := by kernel_rfl
theorem sz87 : sz Tryz.prog 87 = some 2 := by kernel_rfl
theorem byt87 : byt Tryz.prog 87 = some 16 := by kernel_rfl
theorem zero87 : zeroT Tryz.prog 87 = some (.agg [.int .i64 0, .int .i64 0]) := by kernel_rfl
theorem tk88 : tk Tryz.prog 88 = .func := by kernel_rfl
theorem sz88 : sz Tryz.prog 88 = some 1 := by kernel_rfl
theorem byt88 : byt Tryz.prog 88 = some 8 := by kernel_rfl
theorem zero88 : zeroT Tryz.prog 88 = some (.nilFunc) := by kernel_rfl
theorem tk89 : tk Tryz.prog 89 = .func := by kernel_rfl
theorem sz89 : sz Tryz.prog 89 = some 1 := by kernel_rfl
theorem byt89 : byt Tryz.prog 89 = some 8 := by kernel_rfl
theorem zero89 : zeroT Tryz.prog 89 = some (.nilFunc) := by kernel_rfl
theorem tk90 : tk Tryz.prog 90 = .func := by kernel_rfl
theorem sz90 : sz Tryz.prog 90 = some 1 := by kernel_rfl
theorem byt90 : byt Tryz.prog 90 = some 8 := by kernel_rfl
theorem zero90 : zeroT Tryz.prog 90 = some (.nilFunc) := by kernel_rfl
theorem tk91 : tk Tryz.prog 91 = .func := by kernel_rfl
theorem sz91 : sz Tryz.prog 91 = some 1 := by kernel_rfl
theorem byt91 : byt Tryz.prog 91 = some 8 := by kernel_rfl
theorem zero91 : zeroT Tryz.prog 91 = some (.nilFunc) := by kernel_rfl
theorem tk92 : tk Tryz.prog 92 = .func := by kernel_rfl
theorem sz92 : sz Tryz.prog 92 = some 1 := by kernel_rfl
theorem byt92 : byt Tryz.prog 92 = some 8 := by kernel_rfl
theorem zero92 : zeroT Tryz.prog 92 = some (.nilFunc) := by kernel_rfl
theorem tk93 : tk Tryz.prog 93 = .func := by kernel_rfl
theorem sz93 : sz Tryz.prog 93 = some 1 := by kernel_rfl
theorem byt93 : byt Tryz.prog 93 = some 8 := by kernel_rfl
theorem zero93 : zeroT Tryz.prog 93 = some (.nilFunc) := by kernel_rfl
theorem tk94 : tk Tryz.prog 94 = .slice 9 := by kernel_rfl
theorem sz94 : sz Tryz.prog 94 = some 1 := by kernel_rfl
theorem byt94 : byt Tryz.prog 94 = some 24 := by kernel_rfl
theorem zero94 : zeroT Tryz.prog 94 = some (.nilSlice) := by kernel_rfl
theorem tk95 : tk Tryz.prog 95 = .func := by kernel_rfl
theorem sz95 : sz Tryz.prog 95 = some 1 := by kernel_rfl
theorem byt95 : byt Tryz.prog 95 = some 8 := by kernel_rfl
theorem zero95 : zeroT Tryz.prog 95 = some (.nilFunc) := by kernel_rfl
theorem tk96 : tk Tryz.prog 96 = .func := by kernel_rfl
theorem sz96 : sz Tryz.prog 96 = some 1 := by kernel_rfl
theorem byt96 : byt Tryz.prog 96 = some 8 := by kernel_rfl
theorem zero96 : zeroT Tryz.prog 96 = some (.nilFunc) := by kernel_rfl
theorem tk98 : tk Tryz.prog 98 = .func := by kernel_rfl
theorem sz98 : sz Tryz.prog 98 = some 1 := by kernel_rfl
theorem byt98 : byt Tryz.prog 98 = some 8 := by kernel_rfl
theorem zero98 : zeroT Tryz.prog 98 = some (.nilFunc) := by kernel_rfl
theorem tk99 : tk Tryz.prog 99 = .ptr 101 := by kernel_rfl
theorem sz99 : sz Tryz.prog 99 = some 1 := by kernel_rfl
theorem byt99 : byt Tryz.prog 99 = some 8 := by kernel_rfl
theorem zero99 : zeroT Tryz.prog 99 = some (.nilPtr) := by kernel_rfl
theorem tk100 : tk Tryz.prog 100 = .struct [(0, 3), (1, 80), (2, 3), (3, 3), (4, 22), (5, 64)] := by kernel_rfl
theorem sz100 : sz Tryz.prog 100 = some 7 := by kernel_rfl
theorem byt100 : byt Tryz.prog 100 = some 88 := by kernel_rfl
theorem zero100 : zeroT Tryz.prog 100 = some (.agg [.int .i64 0, .nilSlice, .int .i64 0, .int .i64 0, .nilSlice, .int .i64 0, .int .i64 0]) := by kernel_rfl
theorem tk101 : tk Tryz.prog 101 = .struct [(0, 3), (1, 80), (2, 3), (3, 3), (4, 22), (5, 64)] := by kernel_rfl
theorem sz101 : sz Tryz.prog 101 = some 7 := by kernel_rfl
theorem byt101 : byt Tryz.prog 101 = some 88 := by kernel_rfl
theorem zero101 : zeroT Tryz.prog 101 = some (.agg [.int .i64 0, .nilSlice, .int .i64 0, .int .i64 0, .nilSlice, .int .i64 0, .int .i64 0]) := by kernel_rfl
theorem tk102 : tk Tryz.prog 102 = .func := by kernel_rfl
theorem sz102 : sz Tryz.prog 102 = some 1 := by kernel_rfl
theorem byt102 : byt Tryz.prog 102 = some 8 := by kernel_rfl
theorem zero102 : zeroT Tryz.prog 102 = some (.nilFunc) := by kernel_rfl
theorem tk103 : tk Tryz.prog 103 = .func := by kernel_rfl
theorem sz103 : sz Tryz.prog 103 = some 1 := by kernel_rfl
theorem byt103 : byt Tryz.prog 103 = some 8 := by kernel_rfl
theorem zero103 : zeroT Tryz.prog 103 = some (.nilFunc) := by kernel_rfl
theorem tk104 : tk Tryz.prog 104 = .func := by kernel_rfl
theorem sz104 : sz Tryz.prog 104 = some 1 := by kernel_rfl
theorem byt104 : byt Tryz.prog 104 = some 8 := by kernel_rfl
theorem zero104 : zeroT Tryz.prog 104 = some (.nilFunc) := by kernel_rfl
theorem tk105 : tk Tryz.prog 105 = .struct [(0, 9), (1, 9)] := by kernel_rfl
theorem sz105 : sz Tryz.prog 105 = some 2 := by kernel_rfl
theorem byt105 : byt Tryz.prog 105 = some 32 := by kernel_rfl
theorem zero105 : zeroT Tryz.prog 105 = some (.agg [.str ⟨#[]⟩, .str ⟨#[]⟩]) := by kernel_rfl
theorem tk106 : tk Tryz.prog 106 = .struct [(0, 9), (1, 9)] := by kernel_rfl
theorem sz106 : sz Tryz.prog 106 = some 2 := by kernel_rfl
theorem byt106 : byt Tryz.prog 106 = some 32 := by kernel_rfl
theorem zero106 : zeroT Tryz.prog 106 = some (.agg [.str ⟨#[]⟩, .str ⟨#[]⟩]) := by kernel_rfl
theorem tk108 : tk Tryz.prog 108 = .func := by kernel_rfl
theorem sz108 : sz Tryz.prog 108 = some 1 := by kernel_rfl
theorem byt108 : byt Tryz.prog 108 = some 8 := by kernel_rfl
theorem zero108 : zeroT Tryz.prog 108 = some (.nilFunc) := by kernel_rfl
theorem tk109 : tk Tryz.prog 109 = .func := by kernel_rfl
theorem sz109 : sz Tryz.prog 109 = some 1 := by kernel_rfl
theorem byt109 : byt Tryz.prog 109 = some 8 := by kernel_rfl
theorem zero109 : zeroT Tryz.prog 109 = some (.nilFunc) := by kernel_rfl
theorem tk110 : tk Tryz.prog 110 = .func := by kernel_rfl
theorem sz110 : sz Tryz.prog 110 = some 1 := by kernel_rfl
theorem byt110 : byt Tryz.prog 110 = some 8 := by kernel_rfl
theorem zero110 : zeroT Tryz.prog 110 = some (.nilFunc) := by kernel_rfl
theorem tk111 : tk Tryz.prog 111 = .func := by kernel_rfl
theorem sz111 : sz Tryz.prog 111 = some 1 := by kernel_rfl
theorem byt111 : byt Tryz.prog 111 = some 8 := by kernel_rfl
theorem zero111 : zeroT Tryz.prog 111 = some (.nilFunc) := by kernel_rfl
theorem tk112 : tk Tryz.prog 112 = .func := by kernel_rfl
theorem sz112 : sz Tryz.prog 112 = some 1 := by kernel_rfl
theorem byt112 : byt Tryz.prog 112 = some 8 := by kernel_rfl
theorem zero112 : zeroT Tryz.prog 112 = some (.nilFunc) := by kernel_rfl
theorem tk113 : tk Tryz.prog 113 = .func := by kernel_rfl
theorem sz113 : sz Tryz.prog 113 = some 1 := by kernel_rfl
theorem byt113 : byt Tryz.prog 113 = some 8 := by kernel_rfl
theorem zero113 : zeroT Tryz.prog 113 = some (.nilFunc) := by kernel_rfl
theorem tk114 : tk Tryz.prog 114 = .array 3 3 := by kernel_rfl
theorem sz114 : sz Tryz.prog 114 = some 3 := by kernel_rfl
theorem byt114 : byt Tryz.prog 114 = some 24 := by kernel_rfl
theorem zero114 : zeroT Tryz.prog 114 = some (.agg [.int .i64 0, .int .i64 0, .int .i64 0]) := by kernel_rfl
theorem tk115 : tk Tryz.prog 115 = .func := by kernel_rfl
theorem sz115 : sz Tryz.prog 115 = some 1 := by kernel_rfl
theorem byt115 : byt Tryz.prog 115 = some 8 := by kernel_rfl
theorem zero115 : zeroT Tryz.prog 115 = some (.nilFunc) := by kernel_rfl
theorem tk116 : tk Tryz.prog 116 = .func := by kernel_rfl
theorem sz116 : sz Tryz.prog 116 = some 1 := by kernel_rfl
theorem byt116 : byt Tryz.prog 116 = some 8 := by kernel_rfl
theorem zero116 : zeroT Tryz.prog 116 = some (.nilFunc) := by kernel_rfl
theorem tk117 : tk Tryz.prog 117 = .func := by kernel_rfl
theorem sz117 : sz Tryz.prog 117 = some 1 := by kernel_rfl
theorem byt117 : byt Tryz.prog 117 = some 8 := by kernel_rfl
theorem zero117 : zeroT Tryz.prog 117 = some (.nilFunc) := by kernel_rfl
theorem tk118 : tk Tryz.prog 118 = .ptr 120 := by kernel_rfl
theorem sz118 : sz Tryz.prog 118 = some 1 := by kernel_rfl
theorem byt118 : byt Tryz.prog 118 = some 8 := by kernel_rfl
theorem zero118 : zeroT Tryz.prog 118 = some (.nilPtr) := by kernel_rfl
theorem tk119 : tk Tryz.prog 119 = .struct [(0, 9), (1, 3), (2, 80)] := by kernel_rfl
theorem sz119 : sz Tryz.prog 119 = some 3 := by kernel_rfl
theorem byt119 : byt Tryz.prog 119 = some 48 := by kernel_rfl
theorem zero119 : zeroT Tryz.prog 119 = some (.agg [.str ⟨#[]⟩, .int .i64 0, .nilSlice]) := by kernel_rfl
theorem tk120 : tk Tryz.prog 120 = .struct [(0, 9), (1, 3), (2, 80)] := by kernel_rfl
theorem sz120 : sz Tryz.prog 120 = some 3 := by kernel_rfl
theorem byt120 : byt Tryz.prog 120 = some 48 := by kernel_rfl
theorem zero120 : zeroT Tryz.prog 120 = some (.agg [.str ⟨#[]⟩, .int .i64 0, .nilSlice]) := by kernel_rfl
theorem tk121 : tk Tryz.prog 121 = .func := by kernel_rfl
theorem sz121 : sz Tryz.prog 121 = some 1 := by kernel_rfl
theorem byt121 : byt Tryz.prog 121 = some 8 := by kernel_rfl
theorem zero121 : zeroT Tryz.prog 121 = some (.nilFunc) := by kernel_rfl
theorem tk122 : tk Tryz.prog 122 = .func := by kernel_rfl
theorem sz122 : sz Tryz.prog 122 = some 1 := by kernel_rfl
theorem byt122 : byt Tryz.prog 122 = some 8 := by kernel_rfl
theorem zero122 : zeroT Tryz.prog 122 = some (.nilFunc) := by kernel_rfl
theorem tk124 : tk Tryz.prog 124 = .func := by kernel_rfl
theorem sz124 : sz Tryz.prog 124 = some 1 := by kernel_rfl
theorem byt124 : byt Tryz.prog 124 = some 8 := by kernel_rfl
theorem zero124 : zeroT Tryz.prog 124 = some (.nilFunc) := by kernel_rfl
theorem tk126 : tk Tryz.prog 126 = .func := by kernel_rfl
theorem sz126 : sz Tryz.prog 126 = some 1 := by kernel_rfl
theorem byt126 : byt Tryz.prog 126 = some 8 := by kernel_rfl
theorem zero126 : zeroT Tryz.prog 126 = some (.nilFunc) := by kernel_rfl
theorem tk127 : tk Tryz.prog 127 = .func := by kernel_rfl
theorem sz127 : sz Tryz.prog 127 = some 1 := by kernel_rfl
theorem byt127 : byt Tryz.prog 127 = some 8 := by kernel_rfl
theorem zero127 : zeroT Tryz.prog 127 = some (.nilFunc) := by kernel_rfl
theorem tk129 : tk Tryz.prog 129 = .func := by kernel_rfl
theorem sz129 : sz Tryz.prog 129 = some 1 := by kernel_rfl
theorem byt129 : byt Tryz.prog 129 = some 8 := by kernel_rfl
theorem zero129 : zeroT Tryz.prog 129 = some (.nilFunc) := by kernel_rfl
theorem tk130 : tk Tryz.prog 130 = .func := by kernel_rfl
theorem sz130 : sz Tryz.prog 130 = some 1 := by kernel_rfl
theorem byt130 : byt Tryz.prog 130 = some 8 := by kernel_rfl
theorem zero130 : zeroT Tryz.prog 130 = some (.nilFunc) := by kernel_rfl
theorem tk132 : tk Tryz.prog 132 = .func := by kernel_rfl
theorem sz132 : sz Tryz.prog 132 = some 1 := by kernel_rfl
theorem byt132 : byt Tryz.prog 132 = some 8 := by kernel_rfl
theorem zero132 : zeroT Tryz.prog 132 = some (.nilFunc) := by kernel_rfl
theorem tk133 : tk Tryz.prog 133 = .struct [(0, 3), (1, 9), (2, 2), (3, 3)] := by kernel_rfl
theorem sz133 : sz Tryz.prog 133 = some 4 := by kernel_rfl
theorem byt133 : byt Tryz.prog 133 = some 40 := by kernel_rfl
theorem zero133 : zeroT Tryz.prog 133 = some (.agg [.int .i64 0, .str ⟨#[]⟩, .int .i64 0, .int .i64 0]) := by kernel_rfl
theorem tk134 : tk Tryz.prog 134 = .struct [(0, 3), (1, 9), (2, 2), (3, 3)] := by kernel_rfl
theorem sz134 : sz Tryz.prog 134 = some 4 := by kernel_rfl
theorem byt134 : byt Tryz.prog 134 = some 40 := by kernel_rfl
theorem zero134 : zeroT Tryz.prog 134 = some (.agg [.int .i64 0, .str ⟨#[]⟩, .int .i64 0, .int .i64 0]) := by kernel_rfl
theorem tk136 : tk Tryz.prog 136 = .func := by kernel_rfl
theorem sz136 : sz Tryz.prog 136 = some 1 := by kernel_rfl
theorem byt136 : byt Tryz.prog 136 = some 8 := by kernel_rfl
theorem zero136 : zeroT Tryz.prog 136 = some (.nilFunc) := by kernel_rfl
theorem tk137 : tk Tryz.prog 137 = .func := by kernel_rfl
theorem sz137 : sz Tryz.prog 137 = some 1 := by kernel_rfl
theorem byt137 : byt Tryz.prog 137 = some 8 := by kernel_rfl
theorem zero137 : zeroT Tryz.prog 137 = some (.nilFunc) := by kernel_rfl
theorem tk138 : tk Tryz.prog 138 = .func := by kernel_rfl
theorem sz138 : sz Tryz.prog 138 = some 1 := by kernel_rfl
theorem byt138 : byt Tryz.prog 138 = some 8 := by kernel_rfl
theorem zero138 : zeroT Tryz.prog 138 = some (.nilFunc) := by kernel_rfl
theorem tk139 : tk Tryz.prog 139 = .func := by kernel_rfl
theorem sz139 : sz Tryz.prog 139 = some 1 := by kernel_rfl
theorem byt139 : byt Tryz.prog 139 = some 8 := by kernel_rfl
theorem zero139 : zeroT Tryz.prog 139 = some (.nilFunc) := by kernel_rfl
theorem tk140 : tk Tryz.prog 140 = .func := by kernel_rfl
theorem sz140 : sz Tryz.prog 140 = some 1 := by kernel_rfl
theorem byt140 : byt Tryz.prog 140 = some 8 := by kernel_rfl
theorem zero140 : zeroT Tryz.prog 140 = some (.nilFunc) := by kernel_rfl
theorem tk142 : tk Tryz.prog 142 = .func := by kernel_rfl
theorem sz142 : sz Tryz.prog 142 = some 1 := by kernel_rfl
theorem byt142 : byt Tryz.prog 142 = some 8 := by kernel_rfl
theorem zero142 : zeroT Tryz.prog 142 = some (.nilFunc) := by kernel_rfl
theorem tk143 : tk Tryz.prog 143 = .func := by kernel_rfl
theorem sz143 : sz Tryz.prog 143 = some 1 := by kernel_rfl
theorem byt143 : byt Tryz.prog 143 = some 8 := by kernel_rfl
theorem zero143 : zeroT Tryz.prog 143 = some (.nilFunc) := by kernel_rfl
theorem tk144 : tk Tryz.prog 144 = .func := by kernel_rfl
theorem sz144 : sz Tryz.prog 144 = some 1 := by kernel_rfl
theorem byt144 : byt Tryz.prog 144 = some 8 := by kernel_rfl
theorem zero144 : zeroT Tryz.prog 144 = some (.nilFunc) := by kernel_rfl
theorem tk145 : tk Tryz.prog 145 = .func := by kernel_rfl
theorem sz145 : sz Tryz.prog 145 = some 1 := by kernel_rfl
theorem byt145 : byt Tryz.prog 145 = some 8 := by kernel_rfl
theorem zero145 : zeroT Tryz.prog 145 = some (.nilFunc) := by kernel_rfl
theorem tk146 : tk Tryz.prog 146 = .int .u64 := by kernel_rfl
theorem sz146 : sz Tryz.prog 146 = some 1 := by kernel_rfl
theorem byt146 : byt Tryz.prog 146 = some 8 := by kernel_rfl
theorem zero146 : zeroT Tryz.prog 146 = some (.int .u64 0) := by kernel_rfl
theorem tk147 : tk Tryz.prog 147 = .func := by kernel_rfl
theorem sz147 : sz Tryz.prog 147 = some 1 := by kernel_rfl
theorem byt147 : byt Tryz.prog 147 = some 8 := by kernel_rfl
theorem zero147 : zeroT Tryz.prog 147 = some (.nilFunc) := by kernel_rfl
theorem tk149 : tk Tryz.prog 149 = .func := by kernel_rfl
theorem sz149 : sz Tryz.prog 149 = some 1 := by kernel_rfl
theorem byt149 : byt Tryz.prog 149 = some 8 := by kernel_rfl
theorem zero149 : zeroT Tryz.prog 149 = some (.nilFunc) := by kernel_rfl
theorem tk150 : tk Tryz.prog 150 = .func := by kernel_rfl
theorem sz150 : sz Tryz.prog 150 = some 1 := by kernel_rfl
theorem byt150 : byt Tryz.prog 150 = some 8 := by kernel_rfl
theorem zero150 : zeroT Tryz.prog 150 = some (.nilFunc) := by kernel_rfl
theorem tk151 : tk Tryz.prog 151 = .map 3 150 := by kernel_rfl
theorem sz151 : sz Tryz.prog 151 = some 1 := by kernel_rfl
theorem byt151 : byt Tryz.prog 151 = some 8 := by kernel_rfl
theorem zero151 : zeroT Tryz.prog 151 = some (.nilMap) := by kernel_rfl
theorem tk152 : tk Tryz.prog 152 = .func := by kernel_rfl
theorem sz152 : sz Tryz.prog 152 = some 1 := by kernel_rfl
theorem byt152 : byt Tryz.prog 152 = some 8 := by kernel_rfl
theorem zero152 : zeroT Tryz.prog 152 = some (.nilFunc) := by kernel_rfl
theorem tk153 : tk Tryz.prog 153 = .func := by kernel_rfl
theorem sz153 : sz Tryz.prog 153 = some 1 := by kernel_rfl
theorem byt153 : byt Tryz.prog 153 = some 8 := by kernel_rfl
theorem zero153 : zeroT Tryz.prog 153 = some (.nilFunc) := by kernel_rfl
theorem tk154 : tk Tryz.prog 154 = .func := by kernel_rfl
theorem sz154 : sz Tryz.prog 154 = some 1 := by kernel_rfl
theorem byt154 : byt Tryz.prog 154 = some 8 := by kernel_rfl
theorem zero154 : zeroT Tryz.prog 154 = some (.nilFunc) := by kernel_rfl
theorem tk155 : tk Tryz.prog 155 = .func := by kernel_rfl
theorem sz155 : sz Tryz.prog 155 = some 1 := by kernel_rfl
theorem byt155 : byt Tryz.prog 155 = some 8 := by kernel_rfl
theorem zero155 : zeroT Tryz.prog 155 = some (.nilFunc) := by kernel_rfl
theorem tk156 : tk Tryz.prog 156 = .func := by kernel_rfl
theorem sz156 : sz Tryz.prog 156 = some 1 := by kernel_rfl
theorem byt156 : byt Tryz.prog 156 = some 8 := by kernel_rfl
theorem zero156 : zeroT Tryz.prog 156 = some (.nilFunc) := by kernel_rfl
theorem tk157 : tk Tryz.prog 157 = .func := by kernel_rfl
theorem sz157 : sz Tryz.prog 157 = some 1 := by kernel_rfl
theorem byt157 : byt Tryz.prog 157 = some 8 := by kernel_rfl
theorem zero157 : zeroT Tryz.prog 157 = some (.nilFunc) := by kernel_rfl
theorem tk158 : tk Tryz.prog 158 = .func := by kernel_rfl
theorem sz158 : sz Tryz.prog 158 = some 1 := by kernel_rfl
theorem byt158 : byt Tryz.prog 158 = some 8 := by kernel_rfl
theorem zero158 : zeroT Tryz.prog 158 = some (.nilFunc) := by kernel_rfl
theorem tk159 : tk Tryz.prog 159 = .func := by kernel_rfl
theorem sz159 : sz Tryz.prog 159 = some 1 := by kernel_rfl
theorem byt159 : byt Tryz.prog 159 = some 8 := by kernel_rfl
theorem zero159 : zeroT Tryz.prog 159 = some (.nilFunc) := by kernel_rfl
theorem tk160 : tk Tryz.prog 160 = .func := by kernel_rfl
theorem sz160 : sz Tryz.prog 160 = some 1 := by kernel_rfl
theorem byt160 : byt Tryz.prog 160 = some 8 := by kernel_rfl
theorem zero160 : zeroT Tryz.prog 160 = some (.nilFunc) := by kernel_rfl
theorem tk161 : tk Tryz.prog 161 = .func := by kernel_rfl
theorem sz161 : sz Tryz.prog 161 = some 1 := by kernel_rfl
theorem byt161 : byt Tryz.prog 161 = some 8 := by kernel_rfl
theorem zero161 : zeroT Tryz.prog 161 = some (.nilFunc) := by kernel_rfl
theorem tk162 : tk Tryz.prog 162 = .func := by kernel_rfl
theorem sz162 : sz Tryz.prog 162 = some 1 := by kernel_rfl
theorem byt162 : byt Tryz.prog 162 = some 8 := by kernel_rfl
theorem zero162 : zeroT Tryz.prog 162 = some (.nilFunc) := by kernel_rfl
theorem tk163 : tk Tryz.prog 163 = .slice 5 := by kernel_rfl
theorem sz163 : sz Tryz.prog 163 = some 1 := by kernel_rfl
theorem byt163 : byt Tryz.prog 163 = some 24 := by kernel_rfl
theorem zero163 : zeroT Tryz.prog 163 = some (.nilSlice) := by kernel_rfl
theorem tk164 : tk Tryz.prog 164 = .func := by kernel_rfl
theorem sz164 : sz Tryz.prog 164 = some 1 := by kernel_rfl
theorem byt164 : byt Tryz.prog 164 = some 8 := by kernel_rfl
theorem zero164 : zeroT Tryz.prog 164 = some (.nilFunc) := by kernel_rfl
theorem tk165 : tk Tryz.prog 165 = .func := by kernel_rfl
theorem sz165 : sz Tryz.prog 165 = some 1 := by kernel_rfl
theorem byt165 : byt Tryz.prog 165 = some 8 := by kernel_rfl
theorem zero165 : zeroT Tryz.prog 165 = some (.nilFunc) := by kernel_rfl
theorem tk166 : tk Tryz.prog 166 = .func := by kernel_rfl
theorem sz166 : sz Tryz.prog 166 = some 1 := by kernel_rfl
theorem byt166 : byt Tryz.prog 166 = some 8 := by kernel_rfl
theorem zero166 : zeroT Tryz.prog 166 = some (.nilFunc) := by kernel_rfl
theorem tk167 : tk Tryz.prog 167 = .ptr 203 := by kernel_rfl
theorem sz167 : sz Tryz.prog 167 = some 1 := by kernel_rfl
theorem byt167 : byt Tryz.prog 167 = some 8 := by kernel_rfl
theorem zero167 : zeroT Tryz.prog 167 = some (.nilPtr) := by kernel_rfl
theorem tk168 : tk Tryz.prog 168 = .func := by kernel_rfl
theorem sz168 : sz Tryz.prog 168 = some 1 := by kernel_rfl
theorem byt168 : byt Tryz.prog 168 = some 8 := by kernel_rfl
theorem zero168 : zeroT Tryz.prog 168 = some (.nilFunc) := by kernel_rfl
theorem tk169 : tk Tryz.prog 169 = .func := by kernel_rfl
theorem sz169 : sz Tryz.prog 169 = some 1 := by kernel_rfl
theorem byt169 : byt Tryz.prog 169 = some 8 := by kernel_rfl
theorem zero169 : zeroT Tryz.prog 169 = some (.nilFunc) := by kernel_rfl
theorem tk170 : tk Tryz.prog 170 = .int .u64 := by kernel_rfl
theorem sz170 : sz Tryz.prog 170 = some 1 := by kernel_rfl
theorem byt170 : byt Tryz.prog 170 = some 8 := by kernel_rfl
theorem zero170 : zeroT Tryz.prog 170 = some (.int .u64 0) := by kernel_rfl
theorem tk171 : tk Tryz.prog 171 = .func := by kernel_rfl
theorem sz171 : sz Tryz.prog 171 = some 1 := by kernel_rfl
theorem byt171 : byt Tryz.prog 171 = some 8 := by kernel_rfl
theorem zero171 : zeroT Tryz.prog 171 = some (.nilFunc) := by kernel_rfl
theorem tk172 : tk Tryz.prog 172 = .array 13 3 := by kernel_rfl
theorem sz172 : sz Tryz.prog 172 = some 13 := by kernel_rfl
theorem byt172 : byt Tryz.prog 172 = some 104 := by kernel_rfl
theorem zero172 : zeroT Tryz.prog 172 = some (.agg [.int .i64 0, .int .i64 0, .int .i64 0, .int .i64 0, .int .i64 0, .int .i64 0, .int .i64 0, .int .i64 0, .int .i64 0, .int .i64 0, .int .i64 0, .int .i64 0, .int .i64 0]) := by kernel_rfl
theorem tk173 : tk Tryz.prog 173 = .func := by kernel_rfl
theorem sz173 : sz Tryz.prog 173 = some 1 := by kernel_rfl
theorem byt173 : byt Tryz.prog 173 = some 8 := by kernel_rfl
theorem zero173 : zeroT Tryz.prog 173 = some (.nilFunc) := by kernel_rfl
theorem tk174 : tk Tryz.prog 174 = .map 3 4 := by kernel_rfl
theorem sz174 : sz Tryz.prog 174 = some 1 := by kernel_rfl
theorem byt174 : byt Tryz.prog 174 = some 8 := by kernel_rfl
theorem zero174 : zeroT Tryz.prog 174 = some (.nilMap) := by kernel_rfl
theorem tk175 : tk Tryz.prog 175 = .func := by kernel_rfl
theorem sz175 : sz Tryz.prog 175 = some 1 := by kernel_rfl
theorem byt175 : byt Tryz.prog 175 = some 8 := by kernel_rfl
theorem zero175 : zeroT Tryz.prog 175 = some (.nilFunc) := by kernel_rfl
theorem tk176 : tk Tryz.prog 176 = .func := by kernel_rfl
theorem sz176 : sz Tryz.prog 176 = some 1 := by kernel_rfl
theorem byt176 : byt Tryz.prog 176 = some 8 := by kernel_rfl
theorem zero176 : zeroT Tryz.prog 176 = some (.nilFunc) := by kernel_rfl
theorem tk177 : tk Tryz.prog 177 = .func := by kernel_rfl
theorem sz177 : sz Tryz.prog 177 = some 1 := by kernel_rfl
theorem byt177 : byt Tryz.prog 177 = some 8 := by kernel_rfl
theorem zero177 : zeroT Tryz.prog 177 = some (.nilFunc) := by kernel_rfl
theorem tk178 : tk Tryz.prog 178 = .func := by kernel_rfl
theorem sz178 : sz Tryz.prog 178 = some 1 := by kernel_rfl
theorem byt178 : byt Tryz.prog 178 = some 8 := by kernel_rfl
theorem zero178 : zeroT Tryz.prog 178 = some (.nilFunc) := by kernel_rfl
theorem tk179 : tk Tryz.prog 179 = .func := by kernel_rfl
theorem sz179 : sz Tryz.prog 179 = some 1 := by kernel_rfl
theorem byt179 : byt Tryz.prog 179 = some 8 := by kernel_rfl
theorem zero179 : zeroT Tryz.prog 179 = some (.nilFunc) := by kernel_rfl
theorem tk180 : tk Tryz.prog 180 = .iface := by kernel_rfl
theorem sz180 : sz Tryz.prog 180 = some 1 := by kernel_rfl
theorem byt180 : byt Tryz.prog 180 = some 16 := by kernel_rfl
theorem zero180 : zeroT Tryz.prog 180 = some (.nilIface) := by kernel_rfl
theorem tk181 : tk Tryz.prog 181 = .iface := by kernel_rfl
theorem sz181 : sz Tryz.prog 181 = some 1 := by kernel_rfl
theorem byt181 : byt Tryz.prog 181 = some 16 := by kernel_rfl
theorem zero181 : zeroT Tryz.prog 181 = some (.nilIface) := by kernel_rfl
theorem tk183 : tk Tryz.prog 183 = .func := by kernel_rfl
theorem sz183 : sz Tryz.prog 183 = some 1 := by kernel_rfl
theorem byt183 : byt Tryz.prog 183 = some 8 := by kernel_rfl
theorem zero183 : zeroT Tryz.prog 183 = some (.nilFunc) := by kernel_rfl
theorem tk184 : tk Tryz.prog 184 = .func := by kernel_rfl
theorem sz184 : sz Tryz.prog 184 = some 1 := by kernel_rfl
theorem byt184 : byt Tryz.prog 184 = some 8 := by kernel_rfl
theorem zero184 : zeroT Tryz.prog 184 = some (.nilFunc) := by kernel_rfl
theorem tk185 : tk Tryz.prog 185 = .func := by kernel_rfl
theorem sz185 : sz Tryz.prog 185 = some 1 := by kernel_rfl
theorem byt185 : byt Tryz.prog 185 = some 8 := by kernel_rfl
theorem zero185 : zeroT Tryz.prog 185 = some (.nilFunc) := by kernel_rfl
theorem tk186 : tk Tryz.prog 186 = .func := by kernel_rfl
theorem sz186 : sz Tryz.prog 186 = some 1 := by kernel_rfl
theorem byt186 : byt Tryz.prog 186 = some 8 := by kernel_rfl
theorem zero186 : zeroT Tryz.prog 186 = some (.nilFunc) := by kernel_rfl
theorem tk187 : tk Tryz.prog 187 = .func := by kernel_rfl
theorem sz187 : sz Tryz.prog 187 = some 1 := by kernel_rfl
theorem byt187 : byt Tryz.prog 187 = some 8 := by kernel_rfl
theorem zero187 : zeroT Tryz.prog 187 = some (.nilFunc) := by kernel_rfl
theorem tk188 : tk Tryz.prog 188 = .struct [] := by kernel_rfl
theorem sz188 : sz Tryz.prog 188 = some 0 := by kernel_rfl
theorem byt188 : byt Tryz.prog 188 = some 0 := by kernel_rfl
theorem zero188 : zeroT Tryz.prog 188 = some (.agg []) := by kernel_rfl
theorem tk189 : tk Tryz.prog 189 = .struct [] := by kernel_rfl
theorem sz189 : sz Tryz.prog 189 = some 0 := by kernel_rfl
theorem byt189 : byt Tryz.prog 189 = some 0 := by kernel_rfl
theorem zero189 : zeroT Tryz.prog 189 = some (.agg []) := by kernel_rfl
theorem tk190 : tk Tryz.prog 190 = .struct [] := by kernel_rfl
theorem sz190 : sz Tryz.prog 190 = some 0 := by kernel_rfl
theorem byt190 : byt Tryz.prog 190 = some 0 := by kernel_rfl
theorem zero190 : zeroT Tryz.prog 190 = some (.agg []) := by kernel_rfl
theorem tk191 : tk Tryz.prog 191 = .int .u32 := by kernel_rfl
theorem sz191 : sz Tryz.prog 191 = some 1 := by kernel_rfl
theorem byt191 : byt Tryz.prog 191 = some 4 := by kernel_rfl
theorem zero191 : zeroT Tryz.prog 191 = some (.int .u32 0) := by kernel_rfl
theorem tk192 : tk Tryz.prog 192 = .struct [(0, 190), (0, 191)] := by kernel_rfl
theorem sz192 : sz Tryz.prog 192 = some 1 := by kernel_rfl
theorem byt192 : byt Tryz.prog 192 = some 4 := by kernel_rfl
theorem zero192 : zeroT Tryz.prog 192 = some (.agg [.int .u32 0]) := by kernel_rfl
theorem tk193 : tk Tryz.prog 193 = .struct [(0, 190), (0, 191)] := by kernel_rfl
theorem sz193 : sz Tryz.prog 193 = some 1 := by kernel_rfl
theorem byt193 : byt Tryz.prog 193 = some 4 := by kernel_rfl
theorem zero193 : zeroT Tryz.prog 193 = some (.agg [.int .u32 0]) := by kernel_rfl
theorem tk194 : tk Tryz.prog 194 = .struct [(0, 21), (1, 191)] := by kernel_rfl
theorem sz194 : sz Tryz.prog 194 = some 2 := by kernel_rfl
theorem byt194 : byt Tryz.prog 194 = some 8 := by kernel_rfl
theorem zero194 : zeroT Tryz.prog 194 = some (.agg [.int .i32 0, .int .u32 0]) := by kernel_rfl
theorem tk195 : tk Tryz.prog 195 = .struct [(0, 21), (1, 191)] := by kernel_rfl
theorem sz195 : sz Tryz.prog 195 = some 2 := by kernel_rfl
theorem byt195 : byt Tryz.prog 195 = some 8 := by kernel_rfl
theorem zero195 : zeroT Tryz.prog 195 = some (.agg [.int .i32 0, .int .u32 0]) := by kernel_rfl
theorem tk196 : tk Tryz.prog 196 = .struct [(0, 189), (0, 195)] := by kernel_rfl
theorem sz196 : sz Tryz.prog 196 = some 2 := by kernel_rfl
theorem byt196 : byt Tryz.prog 196 = some 8 := by kernel_rfl
theorem zero196 : zeroT Tryz.prog 196 = some (.agg [.int .i32 0, .int .u32 0]) := by kernel_rfl
theorem tk197 : tk Tryz.prog 197 = .struct [(0, 189), (0, 195)] := by kernel_rfl
theorem sz197 : sz Tryz.prog 197 = some 2 := by kernel_rfl
theorem byt197 : byt Tryz.prog 197 = some 8 := by kernel_rfl
theorem zero197 : zeroT Tryz.prog 197 = some (.agg [.int .i32 0, .int .u32 0]) := by kernel_rfl
theorem tk198 : tk Tryz.prog 198 = .struct [(0, 189), (0, 193), (1, 197)] := by kernel_rfl
theorem sz198 : sz Tryz.prog 198 = some 3 := by kernel_rfl
theorem byt198 : byt Tryz.prog 198 = some 12 := by kernel_rfl
theorem zero198 : zeroT Tryz.prog 198 = some (.agg [.int .u32 0, .int .i32 0, .int .u32 0]) := by kernel_rfl
theorem tk199 : tk Tryz.prog 199 = .struct [(0, 189), (0, 193), (1, 197)] := by kernel_rfl
theorem sz199 : sz Tryz.prog 199 = some 3 := by kernel_rfl
theorem byt199 : byt Tryz.prog 199 = some 12 := by kernel_rfl
theorem zero199 : zeroT Tryz.prog 199 = some (.agg [.int .u32 0, .int .i32 0, .int .u32 0]) := by kernel_rfl
theorem tk200 : tk Tryz.prog 200 = .iface := by kernel_rfl
theorem sz200 : sz Tryz.prog 200 = some 1 := by kernel_rfl
theorem byt200 : byt Tryz.prog 200 = some 16 := by kernel_rfl
theorem zero200 : zeroT Tryz.prog 200 = some (.nilIface) := by kernel_rfl
theorem tk201 : tk Tryz.prog 201 = .iface := by kernel_rfl
theorem sz201 : sz Tryz.prog 201 = some 1 := by kernel_rfl
theorem byt201 : byt Tryz.prog 201 = some 16 := by kernel_rfl
theorem zero201 : zeroT Tryz.prog 201 = some (.nilIface) := by kernel_rfl
theorem tk202 : tk Tryz.prog 202 = .struct [(0, 199), (3, 201), (4, 94)] := by kernel_rfl
theorem sz202 : sz Tryz.prog 202 = some 5 := by kernel_rfl
theorem byt202 : byt Tryz.prog 202 = some 56 := by kernel_rfl
theorem zero202 : zeroT Tryz.prog 202 = some (.agg [.int .u32 0, .int .i32 0, .int .u32 0, .nilIface, .nilSlice]) := by kernel_rfl
theorem tk203 : tk Tryz.prog 203 = .struct [(0, 199), (3, 201), (4, 94)] := by kernel_rfl
theorem sz203 : sz Tryz.prog 203 = some 5 := by kernel_rfl
theorem byt203 : byt Tryz.prog 203 = some 56 := by kernel_rfl
theorem zero203 : zeroT Tryz.prog 203 = some (.agg [.int .u32 0, .int .i32 0, .int .u32 0, .nilIface, .nilSlice]) := by kernel_rfl
theorem tk204 : tk Tryz.prog 204 = .func := by kernel_rfl
theorem sz204 : sz Tryz.prog 204 = some 1 := by kernel_rfl
theorem byt204 : byt Tryz.prog 204 = some 8 := by kernel_rfl
theorem zero204 : zeroT Tryz.prog 204 = some (.nilFunc) := by kernel_rfl
theorem tk205 : tk Tryz.prog 205 = .func := by kernel_rfl
theorem sz205 : sz Tryz.prog 205 = some 1 := by kernel_rfl
theorem byt205 : byt Tryz.prog 205 = some 8 := by kernel_rfl
theorem zero205 : zeroT Tryz.prog 205 = some (.nilFunc) := by kernel_rfl
theorem tk206 : tk Tryz.prog 206 = .func := by kernel_rfl
theorem sz206 : sz Tryz.prog 206 = some 1 := by kernel_rfl
theorem byt206 : byt Tryz.prog 206 = some 8 := by kernel_rfl
theorem zero206 : zeroT Tryz.prog 206 = some (.nilFunc) := by kernel_rfl
theorem tk207 : tk Tryz.prog 207 = .func := by kernel_rfl
theorem sz207 : sz Tryz.prog 207 = some 1 := by kernel_rfl
theorem byt207 : byt Tryz.prog 207 = some 8 := by kernel_rfl
theorem zero207 : zeroT Tryz.prog 207 = some (.nilFunc) := by kernel_rfl
theorem tk208 : tk Tryz.prog 208 = .func := by kernel_rfl
theorem sz208 : sz Tryz.prog 208 = some 1 := by kernel_rfl
theorem byt208 : byt Tryz.prog 208 = some 8 := by kernel_rfl
theorem zero208 : zeroT Tryz.prog 208 = some (.nilFunc) := by kernel_rfl
theorem tk209 : tk Tryz.prog 209 = .array 24 5 := by kernel_rfl
theorem sz209 : sz Tryz.prog 209 = some 24 := by kernel_rfl
theorem byt209 : byt Tryz.prog 209 = some 24 := by kernel_rfl
theorem zero209 : zeroT Tryz.prog 209 = some (.agg [.int .u8 0, .int .u8 0, .int .u8 0, .int .u8 0, .int .u8 0, .int .u8 0, .int .u8 0, .int .u8 0, .int .u8 0, .int .u8 0, .int .u8 0, .int .u8 0, .int .u8 0, .int .u8 0, .int .u8 0, .int .u8 0, .int .u8 0, .int .u8 0, .int .u8 0, .int .u8 0, .int .u8 0, .int .u8 0, .int .u8 0, .int .u8 0]) := by kernel_rfl
theorem tk210 : tk Tryz.prog 210 = .func := by kernel_rfl
theorem sz210 : sz Tryz.prog 210 = some 1 := by kernel_rfl
theorem byt210 : byt Tryz.prog 210 = some 8 := by kernel_rfl
theorem zero210 : zeroT Tryz.prog 210 = some (.nilFunc) := by kernel_rfl
theorem tk211 : tk Tryz.prog 211 = .func := by kernel_rfl
theorem sz211 : sz Tryz.prog 211 = some 1 := by kernel_rfl
theorem byt211 : byt Tryz.prog 211 = some 8 := by kernel_rfl
theorem zero211 : zeroT Tryz.prog 211 = some (.nilFunc) := by kernel_rfl
theorem tk213 : tk Tryz.prog 213 = .func := by kernel_rfl
theorem sz213 : sz Tryz.prog 213 = some 1 := by kernel_rfl
theorem byt213 : byt Tryz.prog 213 = some 8 := by kernel_rfl
theorem zero213 : zeroT Tryz.prog 213 = some (.nilFunc) := by kernel_rfl
theorem tk214 : tk Tryz.prog 214 = .ptr 199 := by kernel_rfl
theorem sz214 : sz Tryz.prog 214 = some 1 := by kernel_rfl
theorem byt214 : byt Tryz.prog 214 = some 8 := by kernel_rfl
theorem zero214 : zeroT Tryz.prog 214 = some (.nilPtr) := by kernel_rfl
theorem tk215 : tk Tryz.prog 215 = .func := by kernel_rfl
theorem sz215 : sz Tryz.prog 215 = some 1 := by kernel_rfl
theorem byt215 : byt Tryz.prog 215 = some 8 := by kernel_rfl
theorem zero215 : zeroT Tryz.prog 215 = some (.nilFunc) := by kernel_rfl
theorem tk216 : tk Tryz.prog 216 = .func := by kernel_rfl
theorem sz216 : sz Tryz.prog 216 = some 1 := by kernel_rfl
theorem byt216 : byt Tryz.prog 216 = some 8 := by kernel_rfl
theorem zero216 : zeroT Tryz.prog 216 = some (.nilFunc) := by kernel_rfl
theorem tk217 : tk Tryz.prog 217 = .int .i64 := by kernel_rfl
theorem sz217 : sz Tryz.prog 217 = some 1 := by kernel_rfl
theorem byt217 : byt Tryz.prog 217 = some 8 := by kernel_rfl
theorem zero217 : zeroT Tryz.prog 217 = some (.int .i64 0) := by kernel_rfl
theorem tk219 : tk Tryz.prog 219 = .func := by kernel_rfl
theorem sz219 : sz Tryz.prog 219 = some 1 := by kernel_rfl
theorem byt219 : byt Tryz.prog 219 = some 8 := by kernel_rfl
theorem zero219 : zeroT Tryz.prog 219 = some (.nilFunc) := by kernel_rfl
theorem tk220 : tk Tryz.prog 220 = .ptr 246 := by kernel_rfl
theorem sz220 : sz Tryz.prog 220 = some 1 := by kernel_rfl
theorem byt220 : byt Tryz.prog 220 = some 8 := by kernel_rfl
theorem zero220 : zeroT Tryz.prog 220 = some (.nilPtr) := by kernel_rfl
theorem tk221 : tk Tryz.prog 221 = .func := by kernel_rfl
theorem sz221 : sz Tryz.prog 221 = some 1 := by kernel_rfl
theorem byt221 : byt Tryz.prog 221 = some 8 := by kernel_rfl
theorem zero221 : zeroT Tryz.prog 221 = some (.nilFunc) := by kernel_rfl
theorem tk222 : tk Tryz.prog 222 = .func := by kernel_rfl
theorem sz222 : sz Tryz.prog 222 = some 1 := by kernel_rfl
theorem byt222 : byt Tryz.prog 222 = some 8 := by kernel_rfl
theorem zero222 : zeroT Tryz.prog 222 = some (.nilFunc) := by kernel_rfl
theorem tk223 : tk Tryz.prog 223 = .func := by kernel_rfl
theorem sz223 : sz Tryz.prog 223 = some 1 := by kernel_rfl
theorem byt223 : byt Tryz.prog 223 = some 8 := by kernel_rfl
theorem zero223 : zeroT Tryz.prog 223 = some (.nilFunc) := by kernel_rfl
theorem tk224 : tk Tryz.prog 224 = .func := by kernel_rfl
theorem sz224 : sz Tryz.prog 224 = some 1 := by kernel_rfl
theorem byt224 : byt Tryz.prog 224 = some 8 := by kernel_rfl
theorem zero224 : zeroT Tryz.prog 224 = some (.nilFunc) := by kernel_rfl
theorem tk225 : tk Tryz.prog 225 = .array 20 170 := by kernel_rfl
theorem sz225 : sz Tryz.prog 225 = some 20 := by kernel_rfl
theorem byt225 : byt Tryz.prog 225 = some 160 := by kernel_rfl
theorem zero225 : zeroT Tryz.prog 225 = some (.agg [.int .u64 0, .int .u64 0, .int .u64 0, .int .u64 0, .int .u64 0, .int .u64 0, .int .u64 0, .int .u64 0, .int .u64 0, .int .u64 0, .int .u64 0, .int .u64 0, .int .u64 0, .int .u64 0, .int .u64 0, .int .u64 0, .int .u64 0, .int .u64 0, .int .u64 0, .int .u64 0]) := by kernel_rfl
theorem tk226 : tk Tryz.prog 226 = .array 65 5 := by kernel_rfl
theorem sz226 : sz Tryz.prog 226 = some 65 := by kernel_rfl
theorem byt226 : byt Tryz.prog 226 = some 65 := by kernel_rfl
theorem zero226 : zeroT Tryz.prog 226 = some (.agg [.int .u8 0, .int .u8 0, .int .u8 0, .int .u8 0, .int .u8 0, .int .u8 0, .int .u8 0, .int .u8 0, .int .u8 0, .int .u8 0, .int .u8 0, .int .u8 0, .int .u8 0, .int .u8 0, .int .u8 0, .int .u8 0, .int .u8 0, .int .u8 0, .int .u8 0, .int .u8 0, .int .u8 0, .int .u8 0, .int .u8 0, .int .u8 0, .int .u8 0, .int .u8 0, .int .u8 0, .int .u8 0, .int .u8 0, .int .u8 0, .int .u8 0, .int .u8 0, .int .u8 0, .int .u8 0, .int .u8 0, .int .u8 0, .int .u8 0, .int .u8 0, .int .u8 0, .int .u8 0, .int .u8 0, .int .u8 0, .int .u8 0, .int .u8 0, .int .u8 0, .int .u8 0, .int .u8 0, .int .u8 0, .int .u8 0, .int .u8 0, .int .u8 0, .int .u8 0, .int .u8 0, .int .u8 0, .int .u8 0, .int .u8 0, .int .u8 0, .int .u8 0, .int .u8 0, .int .u8 0, .int .u8 0, .int .u8 0, .int .u8 0, .int .u8 0, .int .u8 0]) := by kernel_rfl
theorem tk227 : tk Tryz.prog 227 = .func := by kernel_rfl
theorem sz227 : sz Tryz.prog 227 = some 1 := by kernel_rfl
theorem byt227 : byt Tryz.prog 227 = some 8 := by kernel_rfl
theorem zero227 : zeroT Tryz.prog 227 = some (.nilFunc) := by kernel_rfl
theorem tk228 : tk Tryz.prog 228 = .func := by kernel_rfl
theorem sz228 : sz Tryz.prog 228 = some 1 := by kernel_rfl
theorem byt228 : byt Tryz.prog 228 = some 8 := by kernel_rfl
theorem zero228 : zeroT Tryz.prog 228 = some (.nilFunc) := by kernel_rfl
theorem tk229 : tk Tryz.prog 229 = .ptr 193 := by kernel_rfl
theorem sz229 : sz Tryz.prog 229 = some 1 := by kernel_rfl
theorem byt229 : byt Tryz.prog 229 = some 8 := by kernel_rfl
theorem zero229 : zeroT Tryz.prog 229 = some (.nilPtr) := by kernel_rfl
theorem tk230 : tk Tryz.prog 230 = .func := by kernel_rfl
theorem sz230 : sz Tryz.prog 230 = some 1 := by kernel_rfl
theorem byt230 : byt Tryz.prog 230 = some 8 := by kernel_rfl
theorem zero230 : zeroT Tryz.prog 230 = some (.nilFunc) := by kernel_rfl
theorem tk231 : tk Tryz.prog 231 = .ptr 191 := by kernel_rfl
theorem sz231 : sz Tryz.prog 231 = some 1 := by kernel_rfl
theorem byt231 : byt Tryz.prog 231 = some 8 := by kernel_rfl
theorem zero231 : zeroT Tryz.prog 231 = some (.nilPtr) := by kernel_rfl
theorem tk232 : tk Tryz.prog 232 = .func := by kernel_rfl
theorem sz232 : sz Tryz.prog 232 = some 1 := by kernel_rfl
theorem byt232 : byt Tryz.prog 232 = some 8 := by kernel_rfl
theorem zero232 : zeroT Tryz.prog 232 = some (.nilFunc) := by kernel_rfl
theorem tk233 : tk Tryz.prog 233 = .ptr 255 := by kernel_rfl
theorem sz233 : sz Tryz.prog 233 = some 1 := by kernel_rfl
theorem byt233 : byt Tryz.prog 233 = some 8 := by kernel_rfl
theorem zero233 : zeroT Tryz.prog 233 = some (.nilPtr) := by kernel_rfl
theorem tk234 : tk Tryz.prog 234 = .func := by kernel_rfl
theorem sz234 : sz Tryz.prog 234 = some 1 := by kernel_rfl
theorem byt234 : byt Tryz.prog 234 = some 8 := by kernel_rfl
theorem zero234 : zeroT Tryz.prog 234 = some (.nilFunc) := by kernel_rfl
theorem tk235 : tk Tryz.prog 235 = .ptr 261 := by kernel_rfl
theorem sz235 : sz Tryz.prog 235 = some 1 := by kernel_rfl
theorem byt235 : byt Tryz.prog 235 = some 8 := by kernel_rfl
theorem zero235 : zeroT Tryz.prog 235 = some (.nilPtr) := by kernel_rfl
theorem tk236 : tk Tryz.prog 236 = .func := by kernel_rfl
theorem sz236 : sz Tryz.prog 236 = some 1 := by kernel_rfl
theorem byt236 : byt Tryz.prog 236 = some 8 := by kernel_rfl
theorem zero236 : zeroT Tryz.prog 236 = some (.nilFunc) := by kernel_rfl
theorem tk237 : tk Tryz.prog 237 = .array 256 5 := by kernel_rfl
theorem sz237 : sz Tryz.prog 237 = some 256 := by kernel_rfl
theorem byt237 : byt Tryz.prog 237 = some 256 := by kernel_rfl
theorem zero237 : zeroT Tryz.prog 237 = some (.agg [.int .u8 0, .int .u8 0, .int .u8 0, .int .u8 0, .int .u8 0, .int .u8 0, .int .u8 0, .int .u8 0, .int .u8 0, .int .u8 0, .int .u8 0, .int .u8 0, .int .u8 0, .int .u8 0, .int .u8 0, .int .u8 0, .int .u8 0, .int .u8 0, .int .u8 0, .int .u8 0, .int .u8 0, .int .u8 0, .int .u8 0, .int .u8 0, .int .u8 0, .int .u8 0, .int .u8 0, .int .u8 0, .int .u8 0, .int .u8 0, .int .u8 0, .int .u8 0, .int .u8 0, .int .u8 0, .int .u8 0, .int .u8 0, .int .u8 0, .int .u8 0, .int .u8 0, .int .u8 0, .int .u8 0, .int .u8 0, .int .u8 0, .int .u8 0, .int .u8 0, .int .u8 0, .int .u8 0, .int .u8 0, .int .u8 0, .int .u8 0, .int .u8 0, .int .u8 0, .int .u8 0, .int .u8 0, .int .u8 0, .int .u8 0, .int .u8 0, .int .u8 0, .int .u8 0, .int .u8 0, .int .u8 0, .int .u8 0, .int .u8 0, .int .u8 0, .int .u8 0, .int .u8 0, .int .u8 0, .int .u8 0, .int .u8 0, .int .u8 0, .int .u8 0, .int .u8 0, .int .u8 0, .int .u8 0, .int .u8 0, .int .u8 0, .int .u8 0, .int .u8 0, .int .u8 0, .int .u8 0, .int .u8 0, .int .u8 0, .int .u8 0, .int .u8 0, .int .u8 0, .int .u8 0, .int .u8 0, .int .u8 0, .int .u8 0, .int .u8 0, .int .u8 0, .int .u8 0, .int .u8 0, .int .u8 0, .int .u8 0, .int .u8 0, .int .u8 0, .int .u8 0, .int .u8 0, .int .u8 0, .int .u8 0, .int .u8 0, .int .u8 0, .int .u8 0, .int .u8 0, .int .u8 0, .int .u8 0, .int .u8 0, .int .u8 0, .int .u8 0, .int .u8 0, .int .u8 0, .int .u8 0, .int .u8 0, .int .u8 0, .int .u8 0, .int .u8 0, .int .u8 0, .int .u8 0, .int .u8 0, .int .u8 0, .int .u8 0, .int .u8 0, .int .u8 0, .int .u8 0, .int .u8 0, .int .u8 0, .int .u8 0, .int .u8 0, .int .u8 0, .int .u8 0, .int .u8 0, .int .u8 0, .int .u8 0, .int .u8 0, .int .u8 0, .int .u8 0, .int .u8 0, .int .u8 0, .int .u8 0, .int .u8 0, .int .u8 0, .int .u8 0, .int .u8 0, .int .u8 0, .int .u8 0, .int .u8 0, .int .u8 0, .int .u8 0, .int .u8 0, .int .u8 0, .int .u8 0, .int .u8 0, .int .u8 0, .int .u8 0, .int .u8 0, .int .u8 0, .int .u8 0, .int .u8 0, .int .u8 0, .int .u8 0, .int .u8 0, .int .u8 0, .int .u8 0, .int .u8 0, .int .u8 0, .int .u8 0, .int .u8 0, .int .u8 0, .int .u8 0, .int .u8 0, .int .u8 0, .int .u8 0, .int .u8 0, .int .u8 0, .int .u8 0, .int .u8 0, .int .u8 0, .int .u8 0, .int .u8 0, .int .u8 0, .int .u8 0, .int .u8 0, .int .u8 0, .int .u8 0, .int .u8 0, .int .u8 0, .int .u8 0, .int .u8 0, .int .u8 0, .int .u8 0, .int .u8 0, .int .u8 0, .int .u8 0, .int .u8 0, .int .u8 0, .int .u8 0, .int .u8 0, .int .u8 0, .int .u8 0, .int .u8 0, .int .u8 0, .int .u8 0, .int .u8 0, .int .u8 0, .int .u8 0, .int .u8 0, .int .u8 0, .int .u8 0, .int .u8 0, .int .u8 0, .int .u8 0, .int .u8 0, .int .u8 0, .int .u8 0, .int .u8 0, .int .u8 0, .int .u8 0, .int .u8 0, .int .u8 0, .int .u8 0, .int .u8 0, .int .u8 0, .int .u8 0, .int .u8 0, .int .u8 0, .int .u8 0, .int .u8 0, .int .u8 0, .int .u8 0, .int .u8 0, .int .u8 0, .int .u8 0, .int .u8 0, .int .u8 0, .int .u8 0, .int .u8 0, .int .u8 0, .int .u8 0, .int .u8 0, .int .u8 0, .int .u8 0, .int .u8 0, .int .u8 0, .int .u8 0, .int .u8 0, .int .u8 0, .int .u8 0, .int .u8 0, .int .u8 0, .int .u8 0, .int .u8 0, .int .u8 0, .int .u8 0, .int .u8 0, .int .u8 0]) := by kernel_rfl
theorem tk238 : tk Tryz.prog 238 = .array 256 5 := by kernel_rfl
theorem sz238 : sz Tryz.prog 238 = some 256 := by kernel_rfl
theorem byt238 : byt Tryz.prog 238 = some 256 := by kernel_rfl
theorem zero238 : zeroT Tryz.prog 238 = some (.agg [.int .u8 0, .int .u8 0, .int .u8 0, .int .u8 0, .int .u8 0, .int .u8 0, .int .u8 0, .int .u8 0, .int .u8 0, .int .u8 0, .int .u8 0, .int .u8 0, .int .u8 0, .int .u8 0, .int .u8 0, .int .u8 0, .int .u8 0, .int .u8 0, .int .u8 0, .int .u8 0, .int .u8 0, .int .u8 0, .int .u8 0, .int .u8 0, .int .u8 0, .int .u8 0, .int .u8 0, .int .u8 0, .int .u8 0, .int .u8 0, .int .u8 0, .int .u8 0, .int .u8 0, .int .u8 0, .int .u8 0, .int .u8 0, .int .u8 0, .int .u8 0, .int .u8 0, .int .u8 0, .int .u8 0, .int .u8 0, .int .u8 0, .int .u8 0, .int .u8 0, .int .u8 0, .int .u8 0, .int .u8 0, .int .u8 0, .int .u8 0, .int .u8 0, .int .u8 0, .int .u8 0, .int .u8 0, .int .u8 0, .int .u8 0, .int .u8 0, .int .u8 0, .int .u8 0, .int .u8 0, .int .u8 0, .int .u8 0, .int .u8 0, .int .u8 0, .int .u8 0, .int .u8 0, .int .u8 0, .int .u8 0, .int .u8 0, .int .u8 0, .int .u8 0, .int .u8 0, .int .u8 0, .int .u8 0, .int .u8 0, .int .u8 0, .int .u8 0, .int .u8 0, .int .u8 0, .int .u8 0, .int .u8 0, .int .u8 0, .int .u8 0, .int .u8 0, .int .u8 0, .int .u8 0, .int .u8 0, .int .u8 0, .int .u8 0, .int .u8 0, .int .u8 0, .int .u8 0, .int .u8 0, .int .u8 0, .int .u8 0, .int .u8 0, .int .u8 0, .int .u8 0, .int .u8 0, .int .u8 0, .int .u8 0, .int .u8 0, .int .u8 0, .int .u8 0, .int .u8 0, .int .u8 0, .int .u8 0, .int .u8 0, .int .u8 0, .int .u8 0, .int .u8 0, .int .u8 0, .int .u8 0, .int .u8 0, .int .u8 0, .int .u8 0, .int .u8 0, .int .u8 0, .int .u8 0, .int .u8 0, .int .u8 0, .int .u8 0, .int .u8 0, .int .u8 0, .int .u8 0, .int .u8 0, .int .u8 0, .int .u8 0, .int .u8 0, .int .u8 0, .int .u8 0, .int .u8 0, .int .u8 0, .int .u8 0, .int .u8 0, .int .u8 0, .int .u8 0, .int .u8 0, .int .u8 0, .int .u8 0, .int .u8 0, .int .u8 0, .int .u8 0, .int .u8 0, .int .u8 0, .int .u8 0, .int .u8 0, .int .u8 0, .int .u8 0, .int .u8 0, .int .u8 0, .int .u8 0, .int .u8 0, .int .u8 0, .int .u8 0, .int .u8 0, .int .u8 0, .int .u8 0, .int .u8 0, .int .u8 0, .int .u8 0, .int .u8 0, .int .u8 0, .int .u8 0, .int .u8 0, .int .u8 0, .int .u8 0, .int .u8 0, .int .u8 0, .int .u8 0, .int .u8 0, .int .u8 0, .int .u8 0, .int .u8 0, .int .u8 0, .int .u8 0, .int .u8 0, .int .u8 0, .int .u8 0, .int .u8 0, .int .u8 0, .int .u8 0, .int .u8 0, .int .u8 0, .int .u8 0, .int .u8 0, .int .u8 0, .int .u8 0, .int .u8 0, .int .u8 0, .int .u8 0, .int .u8 0, .int .u8 0, .int .u8 0, .int .u8 0, .int .u8 0, .int .u8 0, .int .u8 0, .int .u8 0, .int .u8 0, .int .u8 0, .int .u8 0, .int .u8 0, .int .u8 0, .int .u8 0, .int .u8 0, .int .u8 0, .int .u8 0, .int .u8 0, .int .u8 0, .int .u8 0, .int .u8 0, .int .u8 0, .int .u8 0, .int .u8 0, .int .u8 0, .int .u8 0, .int .u8 0, .int .u8 0, .int .u8 0, .int .u8 0, .int .u8 0, .int .u8 0, .int .u8 0, .int .u8 0, .int .u8 0, .int .u8 0, .int .u8 0, .int .u8 0, .int .u8 0, .int .u8 0, .int .u8 0, .int .u8 0, .int .u8 0, .int .u8 0, .int .u8 0, .int .u8 0, .int .u8 0, .int .u8 0, .int .u8 0, .int .u8 0, .int .u8 0, .int .u8 0, .int .u8 0, .int .u8 0, .int .u8 0, .int .u8 0, .int .u8 0, .int .u8 0, .int .u8 0, .int .u8 0, .int .u8 0, .int .u8 0, .int .u8 0, .int .u8 0, .int .u8 0]) := by kernel_rfl
theorem tk239 : tk Tryz.prog 239 = .ptr 238 := by kernel_rfl
theorem sz239 : sz Tryz.prog 239 = some 1 := by kernel_rfl
theorem byt239 : byt Tryz.prog 239 = some 8 := by kernel_rfl
theorem zero239 : zeroT Tryz.prog 239 = some (.nilPtr) := by kernel_rfl
theorem tk240 : tk Tryz.prog 240 = .array 256 163 := by kernel_rfl
theorem sz240 : sz Tryz.prog 240 = some 256 := by kernel_rfl
theorem byt240 : byt Tryz.prog 240 = some 6144 := by kernel_rfl
theorem zero240 : zeroT Tryz.prog 240 = some (.agg [.nilSlice, .nilSlice, .nilSlice, .nilSlice, .nilSlice, .nilSlice, .nilSlice, .nilSlice, .nilSlice, .nilSlice, .nilSlice, .nilSlice, .nilSlice, .nilSlice, .nilSlice, .nilSlice, .nilSlice, .nilSlice, .nilSlice, .nilSlice, .nilSlice, .nilSlice, .nilSlice, .nilSlice, .nilSlice, .nilSlice, .nilSlice, .nilSlice, .nilSlice, .nilSlice, .nilSlice, .nilSlice, .nilSlice, .nilSlice, .nilSlice, .nilSlice, .nilSlice, .nilSlice, .nilSlice, .nilSlice, .nilSlice, .nilSlice, .nilSlice, .nilSlice, .nilSlice, .nilSlice, .nilSlice, .nilSlice, .nilSlice, .nilSlice, .nilSlice, .nilSlice, .nilSlice, .nilSlice, .nilSlice, .nilSlice, .nilSlice, .nilSlice, .nilSlice, .nilSlice, .nilSlice, .nilSlice, .nilSlice, .nilSlice, .nilSlice, .nilSlice, .nilSlice, .nilSlice, .nilSlice, .nilSlice, .nilSlice, .nilSlice, .nilSlice, .nilSlice, .nilSlice, .nilSlice, .nilSlice, .nilSlice, .nilSlice, .nilSlice, .nilSlice, .nilSlice, .nilSlice, .nilSlice, .nilSlice, .nilSlice, .nilSlice, .nilSlice, .nilSlice, .nilSlice, .nilSlice, .nilSlice, .nilSlice, .nilSlice, .nilSlice, .nilSlice, .nilSlice, .nilSlice, .nilSlice, .nilSlice, .nilSlice, .nilSlice, .nilSlice, .nilSlice, .nilSlice, .nilSlice, .nilSlice, .nilSlice, .nilSlice, .nilSlice, .nilSlice, .nilSlice, .nilSlice, .nilSlice, .nilSlice, .nilSlice, .nilSlice, .nilSlice, .nilSlice, .nilSlice, .nilSlice, .nilSlice, .nilSlice, .nilSlice, .nilSlice, .nilSlice, .nilSlice, .nilSlice, .nilSlice, .nilSlice, .nilSlice, .nilSlice, .nilSlice, .nilSlice, .nilSlice, .nilSlice, .nilSlice, .nilSlice, .nilSlice, .nilSlice, .nilSlice, .nilSlice, .nilSlice, .nilSlice, .nilSlice, .nilSlice, .nilSlice, .nilSlice, .nilSlice, .nilSlice, .nilSlice, .nilSlice, .nilSlice, .nilSlice, .nilSlice, .nilSlice, .nilSlice, .nilSlice, .nilSlice, .nilSlice, .nilSlice, .nilSlice, .nilSlice, .nilSlice, .nilSlice, .nilSlice, .nilSlice, .nilSlice, .nilSlice, .nilSlice, .nilSlice, .nilSlice, .nilSlice, .nilSlice, .nilSlice, .nilSlice, .nilSlice, .nilSlice, .nilSlice, .nilSlice, .nilSlice, .nilSlice, .nilSlice, .nilSlice, .nilSlice, .nilSlice, .nilSlice, .nilSlice, .nilSlice, .nilSlice, .nilSlice, .nilSlice, .nilSlice, .nilSlice, .nilSlice, .nilSlice, .nilSlice, .nilSlice, .nilSlice, .nilSlice, .nilSlice, .nilSlice, .nilSlice, .nilSlice, .nilSlice, .nilSlice, .nilSlice, .nilSlice, .nilSlice, .nilSlice, .nilSlice, .nilSlice, .nilSlice, .nilSlice, .nilSlice, .nilSlice, .nilSlice, .nilSlice, .nilSlice, .nilSlice, .nilSlice, .nilSlice, .nilSlice, .nilSlice, .nilSlice, .nilSlice, .nilSlice, .nilSlice, .nilSlice, .nilSlice, .nilSlice, .nilSlice, .nilSlice, .nilSlice, .nilSlice, .nilSlice, .nilSlice, .nilSlice, .nilSlice, .nilSlice, .nilSlice, .nilSlice, .nilSlice, .nilSlice, .nilSlice, .nilSlice, .nilSlice, .nilSlice, .nilSlice, .nilSlice, .nilSlice, .nilSlice, .nilSlice, .nilSlice, .nilSlice, .nilSlice]) := by kernel_rfl
theorem tk241 : tk Tryz.prog 241 = .struct [(0, 240), (256, 94)] := by kernel_rfl
theorem sz241 : sz Tryz.prog 241 = some 257 := by kernel_rfl
theorem byt241 : byt Tryz.prog 241 = some 6168 := by kernel_rfl
theorem zero241 : zeroT Tryz.prog 241 = some (.agg [.nilSlice, .nilSlice, .nilSlice, .nilSlice, .nilSlice, .nilSlice, .nilSlice, .nilSlice, .nilSlice, .nilSlice, .nilSlice, .nilSlice, .nilSlice, .nilSlice, .nilSlice, .nilSlice, .nilSlice, .nilSlice, .nilSlice, .nilSlice, .nilSlice, .nilSlice, .nilSlice, .nilSlice, .nilSlice, .nilSlice, .nilSlice, .nilSlice, .nilSlice, .nilSlice, .nilSlice, .nilSlice, .nilSlice, .nilSlice, .nilSlice, .nilSlice, .nilSlice, .nilSlice, .nilSlice, .nilSlice, .nilSlice, .nilSlice, .nilSlice, .nilSlice, .nilSlice, .nilSlice, .nilSlice, .nilSlice, .nilSlice, .nilSlice, .nilSlice, .nilSlice, .nilSlice, .nilSlice, .nilSlice, .nilSlice, .nilSlice, .nilSlice, .nilSlice, .nilSlice, .nilSlice, .nilSlice, .nilSlice, .nilSlice, .nilSlice, .nilSlice, .nilSlice, .nilSlice, .nilSlice, .nilSlice, .nilSlice, .nilSlice, .nilSlice, .nilSlice, .nilSlice, .nilSlice, .nilSlice, .nilSlice, .nilSlice, .nilSlice, .nilSlice, .nilSlice, .nilSlice, .nilSlice, .nilSlice, .nilSlice, .nilSlice, .nilSlice, .nilSlice, .nilSlice, .nilSlice, .nilSlice, .nilSlice, .nilSlice, .nilSlice, .nilSlice, .nilSlice, .nilSlice, .nilSlice, .nilSlice, .nilSlice, .nilSlice, .nilSlice, .nilSlice, .nilSlice, .nilSlice, .nilSlice, .nilSlice, .nilSlice, .nilSlice, .nilSlice, .nilSlice, .nilSlice, .nilSlice, .nilSlice, .nilSlice, .nilSlice, .nilSlice, .nilSlice, .nilSlice, .nilSlice, .nilSlice, .nilSlice, .nilSlice, .nilSlice, .nilSlice, .nilSlice, .nilSlice, .nilSlice, .nilSlice, .nilSlice, .nilSlice, .nilSlice, .nilSlice, .nilSlice, .nilSlice, .nilSlice, .nilSlice, .nilSlice, .nilSlice, .nilSlice, .nilSlice, .nilSlice, .nilSlice, .nilSlice, .nilSlice, .nilSlice, .nilSlice, .nilSlice, .nilSlice, .nilSlice, .nilSlice, .nilSlice, .nilSlice, .nilSlice, .nilSlice, .nilSlice, .nilSlice, .nilSlice, .nilSlice, .nilSlice, .nilSlice, .nilSlice, .nilSlice, .nilSlice, .nilSlice, .nilSlice, .nilSlice, .nilSlice, .nilSlice, .nilSlice, .nilSlice, .nilSlice, .nilSlice, .nilSlice, .nilSlice, .nilSlice, .nilSlice, .nilSlice, .nilSlice, .nilSlice, .nilSlice, .nilSlice, .nilSlice, .nilSlice, .nilSlice, .nilSlice, .nilSlice, .nilSlice, .nilSlice, .nilSlice, .nilSlice, .nilSlice, .nilSlice, .nilSlice, .nilSlice, .nilSlice, .nilSlice, .nilSlice, .nilSlice, .nilSlice, .nilSlice, .nilSlice, .nilSlice, .nilSlice, .nilSlice, .nilSlice, .nilSlice, .nilSlice, .nilSlice, .nilSlice, .nilSlice, .nilSlice, .nilSlice, .nilSlice, .nilSlice, .nilSlice, .nilSlice, .nilSlice, .nilSlice, .nilSlice, .nilSlice, .nilSlice, .nilSlice, .nilSlice, .nilSlice, .nilSlice, .nilSlice, .nilSlice, .nilSlice, .nilSlice, .nilSlice, .nilSlice, .nilSlice, .nilSlice, .nilSlice, .nilSlice, .nilSlice, .nilSlice, .nilSlice, .nilSlice, .nilSlice, .nilSlice, .nilSlice, .nilSlice, .nilSlice, .nilSlice, .nilSlice, .nilSlice, .nilSlice, .nilSlice, .nilSlice, .nilSlice, .nilSlice, .nilSlice, .nilSlice, .nilSlice]) := by kernel_rfl
theorem tk242 : tk Tryz.prog 242 = .struct [(0, 240), (256, 94)] := by kernel_rfl
theorem sz242 : sz Tryz.prog 242 = some 257 := by kernel_rfl
theorem byt242 : byt Tryz.prog 242 = some 6168 := by kernel_rfl
theorem zero242 : zeroT Tryz.prog 242 = some (.agg [.nilSlice, .nilSlice, .nilSlice, .nilSlice, .nilSlice, .nilSlice, .nilSlice, .nilSlice, .nilSlice, .nilSlice, .nilSlice, .nilSlice, .nilSlice, .nilSlice, .nilSlice, .nilSlice, .nilSlice, .nilSlice, .nilSlice, .nilSlice, .nilSlice, .nilSlice, .nilSlice, .nilSlice, .nilSlice, .nilSlice, .nilSlice, .nilSlice, .nilSlice, .nilSlice, .nilSlice, .nilSlice, .nilSlice, .nilSlice, .nilSlice, .nilSlice, .nilSlice, .nilSlice, .nilSlice, .nilSlice, .nilSlice, .nilSlice, .nilSlice, .nilSlice, .nilSlice, .nilSlice, .nilSlice, .nilSlice, .nilSlice, .nilSlice, .nilSlice, .nilSlice, .nilSlice, .nilSlice, .nilSlice, .nilSlice, .nilSlice, .nilSlice, .nilSlice, .nilSlice, .nilSlice, .nilSlice, .nilSlice, .nilSlice, .nilSlice, .nilSlice, .nilSlice, .nilSlice, .nilSlice, .nilSlice, .nilSlice, .nilSlice, .nilSlice, .nilSlice, .nilSlice, .nilSlice, .nilSlice, .nilSlice, .nilSlice, .nilSlice, .nilSlice, .nilSlice, .nilSlice, .nilSlice, .nilSlice, .nilSlice, .nilSlice, .nilSlice, .nilSlice, .nilSlice, .nilSlice, .nilSlice, .nilSlice, .nilSlice, .nilSlice, .nilSlice, .nilSlice, .nilSlice, .nilSlice, .nilSlice, .nilSlice, .nilSlice, .nilSlice, .nilSlice, .nilSlice, .nilSlice, .nilSlice, .nilSlice, .nilSlice, .nilSlice, .nilSlice, .nilSlice, .nilSlice, .nilSlice, .nilSlice, .nilSlice, .nilSlice, .nilSlice, .nilSlice, .nilSlice, .nilSlice, .nilSlice, .nilSlice, .nilSlice, .nilSlice, .nilSlice, .nilSlice, .nilSlice, .nilSlice, .nilSlice, .nilSlice, .nilSlice, .nilSlice, .nilSlice, .nilSlice, .nilSlice, .nilSlice, .nilSlice, .nilSlice, .nilSlice, .nilSlice, .nilSlice, .nilSlice, .nilSlice, .nilSlice, .nilSlice, .nilSlice, .nilSlice, .nilSlice, .nilSlice, .nilSlice, .nilSlice, .nilSlice, .nilSlice, .nilSlice, .nilSlice, .nilSlice, .nilSlice, .nilSlice, .nilSlice, .nilSlice, .nilSlice, .nilSlice, .nilSlice, .nilSlice, .nilSlice, .nilSlice, .nilSlice, .nilSlice, .nilSlice, .nilSlice, .nilSlice, .nilSlice, .nilSlice, .nilSlice, .nilSlice, .nilSlice, .nilSlice, .nilSlice, .nilSlice, .nilSlice, .nilSlice, .nilSlice, .nilSlice, .nilSlice, .nilSlice, .nilSlice, .nilSlice, .nilSlice, .nilSlice, .nilSlice, .nilSlice, .nilSlice, .nilSlice, .nilSlice, .nilSlice, .nilSlice, .nilSlice, .nilSlice, .nilSlice, .nilSlice, .nilSlice, .nilSlice, .nilSlice, .nilSlice, .nilSlice, .nilSlice, .nilSlice, .nilSlice, .nilSlice, .nilSlice, .nilSlice, .nilSlice, .nilSlice, .nilSlice, .nilSlice, .nilSlice, .nilSlice, .nilSlice, .nilSlice, .nilSlice, .nilSlice, .nilSlice, .nilSlice, .nilSlice, .nilSlice, .nilSlice, .nilSlice, .nilSlice, .nilSlice, .nilSlice, .nilSlice, .nilSlice, .nilSlice, .nilSlice, .nilSlice, .nilSlice, .nilSlice, .nilSlice, .nilSlice, .nilSlice, .nilSlice, .nilSlice, .nilSlice, .nilSlice, .nilSlice, .nilSlice, .nilSlice, .nilSlice, .nilSlice, .nilSlice, .nilSlice, .nilSlice, .nilSlice, .nilSlice, .nilSlice, .nilSlice]) := by kernel_rfl
theorem tk243 : tk Tryz.prog 243 = .ptr 242 := by kernel_rfl
theorem sz243 : sz Tryz.prog 243 = some 1 := by kernel_rfl
theorem byt243 : byt Tryz.prog 243 = some 8 := by kernel_rfl
theorem zero243 : zeroT Tryz.prog 243 = some (.nilPtr) := by kernel_rfl
theorem tk244 : tk Tryz.prog 244 = .func := by kernel_rfl
theorem sz244 : sz Tryz.prog 244 = some 1 := by kernel_rfl
theorem byt244 : byt Tryz.prog 244 = some 8 := by kernel_rfl
theorem zero244 : zeroT Tryz.prog 244 = some (.nilFunc) := by kernel_rfl
theorem tk245 : tk Tryz.prog 245 = .struct [(0, 9), (1, 9), (2, 181)] := by kernel_rfl
theorem sz245 : sz Tryz.prog 245 = some 3 := by kernel_rfl
theorem byt245 : byt Tryz.prog 245 = some 48 := by kernel_rfl
theorem zero245 : zeroT Tryz.prog 245 = some (.agg [.str ⟨#[]⟩, .str ⟨#[]⟩, .nilIface]) := by kernel_rfl
theorem tk246 : tk Tryz.prog 246 = .struct [(0, 9), (1, 9), (2, 181)] := by kernel_rfl
theorem sz246 : sz Tryz.prog 246 = some 3 := by kernel_rfl
theorem byt246 : byt Tryz.prog 246 = some 48 := by kernel_rfl
theorem zero246 : zeroT Tryz.prog 246 = some (.agg [.str ⟨#[]⟩, .str ⟨#[]⟩, .nilIface]) := by kernel_rfl
theorem tk247 : tk Tryz.prog 247 = .func := by kernel_rfl
theorem sz247 : sz Tryz.prog 247 = some 1 := by kernel_rfl
theorem byt247 : byt Tryz.prog 247 = some 8 := by kernel_rfl
theorem zero247 : zeroT Tryz.prog 247 = some (.nilFunc) := by kernel_rfl
theorem tk248 : tk Tryz.prog 248 = .func := by kernel_rfl
theorem sz248 : sz Tryz.prog 248 = some 1 := by kernel_rfl
theorem byt248 : byt Tryz.prog 248 = some 8 := by kernel_rfl
theorem zero248 : zeroT Tryz.prog 248 = some (.nilFunc) := by kernel_rfl
theorem tk249 : tk Tryz.prog 249 = .ptr 197 := by kernel_rfl
theorem sz249 : sz Tryz.prog 249 = some 1 := by kernel_rfl
theorem byt249 : byt Tryz.prog 249 = some 8 := by kernel_rfl
theorem zero249 : zeroT Tryz.prog 249 = some (.nilPtr) := by kernel_rfl
theorem tk250 : tk Tryz.prog 250 = .func := by kernel_rfl
theorem sz250 : sz Tryz.prog 250 = some 1 := by kernel_rfl
theorem byt250 : byt Tryz.prog 250 = some 8 := by kernel_rfl
theorem zero250 : zeroT Tryz.prog 250 = some (.nilFunc) := by kernel_rfl
theorem tk251 : tk Tryz.prog 251 = .func := by kernel_rfl
theorem sz251 : sz Tryz.prog 251 = some 1 := by kernel_rfl
theorem byt251 : byt Tryz.prog 251 = some 8 := by kernel_rfl
theorem zero251 : zeroT Tryz.prog 251 = some (.nilFunc) := by kernel_rfl
theorem tk252 : tk Tryz.prog 252 = .ptr 278 := by kernel_rfl
theorem sz252 : sz Tryz.prog 252 = some 1 := by kernel_rfl
theorem byt252 : byt Tryz.prog 252 = some 8 := by kernel_rfl
theorem zero252 : zeroT Tryz.prog 252 = some (.nilPtr) := by kernel_rfl
theorem tk253 : tk Tryz.prog 253 = .func := by kernel_rfl
theorem sz253 : sz Tryz.prog 253 = some 1 := by kernel_rfl
theorem byt253 : byt Tryz.prog 253 = some 8 := by kernel_rfl
theorem zero253 : zeroT Tryz.prog 253 = some (.nilFunc) := by kernel_rfl
theorem tk254 : tk Tryz.prog 254 = .struct [(0, 252), (1, 9)] := by kernel_rfl
theorem sz254 : sz Tryz.prog 254 = some 2 := by kernel_rfl
theorem byt254 : byt Tryz.prog 254 = some 24 := by kernel_rfl
theorem zero254 : zeroT Tryz.prog 254 = some (.agg [.nilPtr, .str ⟨#[]⟩]) := by kernel_rfl
theorem tk255 : tk Tryz.prog 255 = .struct [(0, 252), (1, 9)] := by kernel_rfl
theorem sz255 : sz Tryz.prog 255 = some 2 := by kernel_rfl
theorem byt255 : byt Tryz.prog 255 = some 24 := by kernel_rfl
theorem zero255 : zeroT Tryz.prog 255 = some (.agg [.nilPtr, .str ⟨#[]⟩]) := by kernel_rfl
theorem tk256 : tk Tryz.prog 256 = .ptr 259 := by kernel_rfl
theorem sz256 : sz Tryz.prog 256 = some 1 := by kernel_rfl
theorem byt256 : byt Tryz.prog 256 = some 8 := by kernel_rfl
theorem zero256 : zeroT Tryz.prog 256 = some (.nilPtr) := by kernel_rfl
theorem tk257 : tk Tryz.prog 257 = .slice 256 := by kernel_rfl
theorem sz257 : sz Tryz.prog 257 = some 1 := by kernel_rfl
theorem byt257 : byt Tryz.prog 257 = some 24 := by kernel_rfl
theorem zero257 : zeroT Tryz.prog 257 = some (.nilSlice) := by kernel_rfl
theorem tk258 : tk Tryz.prog 258 = .struct [(0, 9), (1, 3), (2, 9), (3, 256), (4, 257)] := by kernel_rfl
theorem sz258 : sz Tryz.prog 258 = some 5 := by kernel_rfl
theorem byt258 : byt Tryz.prog 258 = some 72 := by kernel_rfl
theorem zero258 : zeroT Tryz.prog 258 = some (.agg [.str ⟨#[]⟩, .int .i64 0, .str ⟨#[]⟩, .nilPtr, .nilSlice]) := by kernel_rfl
theorem tk259 : tk Tryz.prog 259 = .struct [(0, 9), (1, 3), (2, 9), (3, 256), (4, 257)] := by kernel_rfl
theorem sz259 : sz Tryz.prog 259 = some 5 := by kernel_rfl
theorem byt259 : byt Tryz.prog 259 = some 72 := by kernel_rfl
theorem zero259 : zeroT Tryz.prog 259 = some (.agg [.str ⟨#[]⟩, .int .i64 0, .str ⟨#[]⟩, .nilPtr, .nilSlice]) := by kernel_rfl
theorem tk260 : tk Tryz.prog 260 = .struct [(0, 259), (5, 3), (6, 237)] := by kernel_rfl
theorem sz260 : sz Tryz.prog 260 = some 262 := by kernel_rfl
theorem byt260 : byt Tryz.prog 260 = some 336 := by kernel_rfl
theorem zero260 : zeroT Tryz.prog 260 = some (.agg [.str ⟨#[]⟩, .int .i64 0, .str ⟨#[]⟩, .nilPtr, .nilSlice, .int .i64 0, .int .u8 0, .int .u8 0, .int .u8 0, .int .u8 0, .int .u8 0, .int .u8 0, .int .u8 0, .int .u8 0, .int .u8 0, .int .u8 0, .int .u8 0, .int .u8 0, .int .u8 0, .int .u8 0, .int .u8 0, .int .u8 0, .int .u8 0, .int .u8 0, .int .u8 0, .int .u8 0, .int .u8 0, .int .u8 0, .int .u8 0, .int .u8 0, .int .u8 0, .int .u8 0, .int .u8 0, .int .u8 0, .int .u8 0, .int .u8 0, .int .u8 0, .int .u8 0, .int .u8 0, .int .u8 0, .int .u8 0, .int .u8 0, .int .u8 0, .int .u8 0, .int .u8 0, .int .u8 0, .int .u8 0, .int .u8 0, .int .u8 0, .int .u8 0, .int .u8 0, .int .u8 0, .int .u8 0, .int .u8 0, .int .u8 0, .int .u8 0, .int .u8 0, .int .u8 0, .int .u8 0, .int .u8 0, .int .u8 0, .int .u8 0, .int .u8 0, .int .u8 0, .int .u8 0, .int .u8 0, .int .u8 0, .int .u8 0, .int .u8 0, .int .u8 0, .int .u8 0, .int .u8 0, .int .u8 0, .int .u8 0, .int .u8 0, .int .u8 0, .int .u8 0, .int .u8 0, .int .u8 0, .int .u8 0, .int .u8 0, .int .u8 0, .int .u8 0, .int .u8 0, .int .u8 0, .int .u8 0, .int .u8 0, .int .u8 0, .int .u8 0, .int .u8 0, .int .u8 0, .int .u8 0, .int .u8 0, .int .u8 0, .int .u8 0, .int .u8 0, .int .u8 0, .int .u8 0, .int .u8 0, .int .u8 0, .int .u8 0, .int .u8 0, .int .u8 0, .int .u8 0, .int .u8 0, .int .u8 0, .int .u8 0, .int .u8 0, .int .u8 0, .int .u8 0, .int .u8 0, .int .u8 0, .int .u8 0, .int .u8 0, .int .u8 0, .int .u8 0, .int .u8 0, .int .u8 0, .int .u8 0, .int .u8 0, .int .u8 0, .int .u8 0, .int .u8 0, .int .u8 0, .int .u8 0, .int .u8 0, .int .u8 0, .int .u8 0, .int .u8 0, .int .u8 0, .int .u8 0, .int .u8 0, .int .u8 0, .int .u8 0, .int .u8 0, .int .u8 0, .int .u8 0, .int .u8 0, .int .u8 0, .int .u8 0, .int .u8 0, .int .u8 0, .int .u8 0, .int .u8 0, .int .u8 0, .int .u8 0, .int .u8 0, .int .u8 0, .int .u8 0, .int .u8 0, .int .u8 0, .int .u8 0, .int .u8 0, .int .u8 0, .int .u8 0, .int .u8 0, .int .u8 0, .int .u8 0, .int .u8 0, .int .u8 0, .int .u8 0, .int .u8 0, .int .u8 0, .int .u8 0, .int .u8 0, .int .u8 0, .int .u8 0, .int .u8 0, .int .u8 0, .int .u8 0, .int .u8 0, .int .u8 0, .int .u8 0, .int .u8 0, .int .u8 0, .int .u8 0, .int .u8 0, .int .u8 0, .int .u8 0, .int .u8 0, .int .u8 0, .int .u8 0, .int .u8 0, .int .u8 0, .int .u8 0, .int .u8 0, .int .u8 0, .int .u8 0, .int .u8 0, .int .u8 0, .int .u8 0, .int .u8 0, .int .u8 0, .int .u8 0, .int .u8 0, .int .u8 0, .int .u8 0, .int .u8 0, .int .u8 0, .int .u8 0, .int .u8 0, .int .u8 0, .int .u8 0, .int .u8 0, .int .u8 0, .int .u8 0, .int .u8 0, .int .u8 0, .int .u8 0, .int .u8 0, .int .u8 0, .int .u8 0, .int .u8 0, .int .u8 0, .int .u8 0, .int .u8 0, .int .u8 0, .int .u8 0, .int .u8 0, .int .u8 0, .int .u8 0, .int .u8 0, .int .u8 0, .int .u8 0, .int .u8 0, .int .u8 0, .int .u8 0, .int .u8 0, .int .u8 0, .int .u8 0, .int .u8 0, .int .u8 0, .int .u8 0, .int .u8 0, .int .u8 0, .int .u8 0, .int .u8 0, .int .u8 0, .int .u8 0, .int .u8 0, .int .u8 0, .int .u8 0, .int .u8 0, .int .u8 0, .int .u8 0, .int .u8 0, .int .u8 0, .int .u8 0, .int .u8 0, .int .u8 0, .int .u8 0, .int .u8 0, .int .u8 0, .int .u8 0, .int .u8 0, .int .u8 0, .int .u8 0, .int .u8 0, .int .u8 0, .int .u8 0, .int .u8 0, .int .u8 0]) := by kernel_rfl
theorem tk261 : tk Tryz.prog 261 = .struct [(0, 259), (5, 3), (6, 237)] := by kernel_rfl
theorem sz261 : sz Tryz.prog 261 = some 262 := by kernel_rfl
theorem byt261 : byt Tryz.prog 261 = some 336 := by kernel_rfl
theorem zero261 : zeroT Tryz.prog 261 = some (.agg [.str ⟨#[]⟩, .int .i64 0, .str ⟨#[]⟩, .nilPtr, .nilSlice, .int .i64 0, .int .u8 0, .int .u8 0, .int .u8 0, .int .u8 0, .int .u8 0, .int .u8 0, .int .u8 0, .int .u8 0, .int .u8 0, .int .u8 0, .int .u8 0, .int .u8 0, .int .u8 0, .int .u8 0, .int .u8 0, .int .u8 0, .int .u8 0, .int .u8 0, .int .u8 0, .int .u8 0, .int .u8 0, .int .u8 0, .int .u8 0, .int .u8 0, .int .u8 0, .int .u8 0, .int .u8 0, .int .u8 0, .int .u8 0, .int .u8 0, .int .u8 0, .int .u8 0, .int .u8 0, .int .u8 0, .int .u8 0, .int .u8 0, .int .u8 0, .int .u8 0, .int .u8 0, .int .u8 0, .int .u8 0, .int .u8 0, .int .u8 0, .int .u8 0, .int .u8 0, .int .u8 0, .int .u8 0, .int .u8 0, .int .u8 0, .int .u8 0, .int .u8 0, .int .u8 0, .int .u8 0, .int .u8 0, .int .u8 0, .int .u8 0, .int .u8 0, .int .u8 0, .int .u8 0, .int .u8 0, .int .u8 0, .int .u8 0, .int .u8 0, .int .u8 0, .int .u8 0, .int .u8 0, .int .u8 0, .int .u8 0, .int .u8 0, .int .u8 0, .int .u8 0, .int .u8 0, .int .u8 0, .int .u8 0, .int .u8 0, .int .u8 0, .int .u8 0, .int .u8 0, .int .u8 0, .int .u8 0, .int .u8 0, .int .u8 0, .int .u8 0, .int .u8 0, .int .u8 0, .int .u8 0, .int .u8 0, .int .u8 0, .int .u8 0, .int .u8 0, .int .u8 0, .int .u8 0, .int .u8 0, .int .u8 0, .int .u8 0, .int .u8 0, .int .u8 0, .int .u8 0, .int .u8 0, .int .u8 0, .int .u8 0, .int .u8 0, .int .u8 0, .int .u8 0, .int .u8 0, .int .u8 0, .int .u8 0, .int .u8 0, .int .u8 0, .int .u8 0, .int .u8 0, .int .u8 0, .int .u8 0, .int .u8 0, .int .u8 0, .int .u8 0, .int .u8 0, .int .u8 0, .int .u8 0, .int .u8 0, .int .u8 0, .int .u8 0, .int .u8 0, .int .u8 0, .int .u8 0, .int .u8 0, .int .u8 0, .int .u8 0, .int .u8 0, .int .u8 0, .int .u8 0, .int .u8 0, .int .u8 0, .int .u8 0, .int .u8 0, .int .u8 0, .int .u8 0, .int .u8 0, .int .u8 0, .int .u8 0, .int .u8 0, .int .u8 0, .int .u8 0, .int .u8 0, .int .u8 0, .int .u8 0, .int .u8 0, .int .u8 0, .int .u8 0, .int .u8 0, .int .u8 0, .int .u8 0, .int .u8 0, .int .u8 0, .int .u8 0, .int .u8 0, .int .u8 0, .int .u8 0, .int .u8 0, .int .u8 0, .int .u8 0, .int .u8 0, .int .u8 0, .int .u8 0, .int .u8 0, .int .u8 0, .int .u8 0, .int .u8 0, .int .u8 0, .int .u8 0, .int .u8 0, .int .u8 0, .int .u8 0, .int .u8 0, .int .u8 0, .int .u8 0, .int .u8 0, .int .u8 0, .int .u8 0, .int .u8 0, .int .u8 0, .int .u8 0, .int .u8 0, .int .u8 0, .int .u8 0, .int .u8 0, .int .u8 0, .int .u8 0, .int .u8 0, .int .u8 0, .int .u8 0, .int .u8 0, .int .u8 0, .int .u8 0, .int .u8 0, .int .u8 0, .int .u8 0, .int .u8 0, .int .u8 0, .int .u8 0, .int .u8 0, .int .u8 0, .int .u8 0, .int .u8 0, .int .u8 0, .int .u8 0, .int .u8 0, .int .u8 0, .int .u8 0, .int .u8 0, .int .u8 0, .int .u8 0, .int .u8 0, .int .u8 0, .int .u8 0, .int .u8 0, .int .u8 0, .int .u8 0, .int .u8 0, .int .u8 0, .int .u8 0, .int .u8 0, .int .u8 0, .int .u8 0, .int .u8 0, .int .u8 0, .int .u8 0, .int .u8 0, .int .u8 0, .int .u8 0, .int .u8 0, .int .u8 0, .int .u8 0, .int .u8 0, .int .u8 0, .int .u8 0, .int .u8 0, .int .u8 0, .int .u8 0, .int .u8 0, .int .u8 0, .int .u8 0, .int .u8 0, .int .u8 0, .int .u8 0, .int .u8 0, .int .u8 0, .int .u8 0, .int .u8 0, .int .u8 0, .int .u8 0, .int .u8 0, .int .u8 0, .int .u8 0, .int .u8 0, .int .u8 0]) := by kernel_rfl
theorem tk262 : tk Tryz.prog 262 = .func := by kernel_rfl
theorem sz262 : sz Tryz.prog 262 = some 1 := by kernel_rfl
theorem byt262 : byt Tryz.prog 262 = some 8 := by kernel_rfl
theorem zero262 : zeroT Tryz.prog 262 = some (.nilFunc) := by kernel_rfl
theorem tk263 : tk Tryz.prog 263 = .ptr 5 := by kernel_rfl
theorem sz263 : sz Tryz.prog 263 = some 1 := by kernel_rfl
theorem byt263 : byt Tryz.prog 263 = some 8 := by kernel_rfl
theorem zero263 : zeroT Tryz.prog 263 = some (.nilPtr) := by kernel_rfl
theorem tk264 : tk Tryz.prog 264 = .ptr 266 := by kernel_rfl
theorem sz264 : sz Tryz.prog 264 = some 1 := by kernel_rfl
theorem byt264 : byt Tryz.prog 264 = some 8 := by kernel_rfl
theorem zero264 : zeroT Tryz.prog 264 = some (.nilPtr) := by kernel_rfl
theorem tk265 : tk Tryz.prog 265 = .struct [(0, 9)] := by kernel_rfl
theorem sz265 : sz Tryz.prog 265 = some 1 := by kernel_rfl
theorem byt265 : byt Tryz.prog 265 = some 16 := by kernel_rfl
theorem zero265 : zeroT Tryz.prog 265 = some (.agg [.str ⟨#[]⟩]) := by kernel_rfl
theorem tk266 : tk Tryz.prog 266 = .struct [(0, 9)] := by kernel_rfl
theorem sz266 : sz Tryz.prog 266 = some 1 := by kernel_rfl
theorem byt266 : byt Tryz.prog 266 = some 16 := by kernel_rfl
theorem zero266 : zeroT Tryz.prog 266 = some (.agg [.str ⟨#[]⟩]) := by kernel_rfl
theorem tk267 : tk Tryz.prog 267 = .array 32 5 := by kernel_rfl
theorem sz267 : sz Tryz.prog 267 = some 32 := by kernel_rfl
theorem byt267 : byt Tryz.prog 267 = some 32 := by kernel_rfl
theorem zero267 : zeroT Tryz.prog 267 = some (.agg [.int .u8 0, .int .u8 0, .int .u8 0, .int .u8 0, .int .u8 0, .int .u8 0, .int .u8 0, .int .u8 0, .int .u8 0, .int .u8 0, .int .u8 0, .int .u8 0, .int .u8 0, .int .u8 0, .int .u8 0, .int .u8 0, .int .u8 0, .int .u8 0, .int .u8 0, .int .u8 0, .int .u8 0, .int .u8 0, .int .u8 0, .int .u8 0, .int .u8 0, .int .u8 0, .int .u8 0, .int .u8 0, .int .u8 0, .int .u8 0, .int .u8 0, .int .u8 0]) := by kernel_rfl
theorem tk268 : tk Tryz.prog 268 = .array 64 5 := by kernel_rfl
theorem sz268 : sz Tryz.prog 268 = some 64 := by kernel_rfl
theorem byt268 : byt Tryz.prog 268 = some 64 := by kernel_rfl
theorem zero268 : zeroT Tryz.prog 268 = some (.agg [.int .u8 0, .int .u8 0, .int .u8 0, .int .u8 0, .int .u8 0, .int .u8 0, .int .u8 0, .int .u8 0, .int .u8 0, .int .u8 0, .int .u8 0, .int .u8 0, .int .u8 0, .int .u8 0, .int .u8 0, .int .u8 0, .int .u8 0, .int .u8 0, .int .u8 0, .int .u8 0, .int .u8 0, .int .u8 0, .int .u8 0, .int .u8 0, .int .u8 0, .int .u8 0, .int .u8 0, .int .u8 0, .int .u8 0, .int .u8 0, .int .u8 0, .int .u8 0, .int .u8 0, .int .u8 0, .int .u8 0, .int .u8 0, .int .u8 0, .int .u8 0, .int .u8 0, .int .u8 0, .int .u8 0, .int .u8 0, .int .u8 0, .int .u8 0, .int .u8 0, .int .u8 0, .int .u8 0, .int .u8 0, .int .u8 0, .int .u8 0, .int .u8 0, .int .u8 0, .int .u8 0, .int .u8 0, .int .u8 0, .int .u8 0, .int .u8 0, .int .u8 0, .int .u8 0, .int .u8 0, .int .u8 0, .int .u8 0, .int .u8 0, .int .u8 0]) := by kernel_rfl
theorem tk269 : tk Tryz.prog 269 = .ptr 195 := by kernel_rfl
theorem sz269 : sz Tryz.prog 269 = some 1 := by kernel_rfl
theorem byt269 : byt Tryz.prog 269 = some 8 := by kernel_rfl
theorem zero269 : zeroT Tryz.prog 269 = some (.nilPtr) := by kernel_rfl
theorem tk270 : tk Tryz.prog 270 = .func := by kernel_rfl
theorem sz270 : sz Tryz.prog 270 = some 1 := by kernel_rfl
theorem byt270 : byt Tryz.prog 270 = some 8 := by kernel_rfl
theorem zero270 : zeroT Tryz.prog 270 = some (.nilFunc) := by kernel_rfl
theorem tk271 : tk Tryz.prog 271 = .ptr 21 := by kernel_rfl
theorem sz271 : sz Tryz.prog 271 = some 1 := by kernel_rfl
theorem byt271 : byt Tryz.prog 271 = some 8 := by kernel_rfl
theorem zero271 : zeroT Tryz.prog 271 = some (.nilPtr) := by kernel_rfl
theorem tk272 : tk Tryz.prog 272 = .func := by kernel_rfl
theorem sz272 : sz Tryz.prog 272 = some 1 := by kernel_rfl
theorem byt272 : byt Tryz.prog 272 = some 8 := by kernel_rfl
theorem zero272 : zeroT Tryz.prog 272 = some (.nilFunc) := by kernel_rfl
theorem tk274 : tk Tryz.prog 274 = .func := by kernel_rfl
theorem sz274 : sz Tryz.prog 274 = some 1 := by kernel_rfl
theorem byt274 : byt Tryz.prog 274 = some 8 := by kernel_rfl
theorem zero274 : zeroT Tryz.prog 274 = some (.nilFunc) := by kernel_rfl
theorem tk275 : tk Tryz.prog 275 = .func := by kernel_rfl
theorem sz275 : sz Tryz.prog 275 = some 1 := by kernel_rfl
theorem byt275 : byt Tryz.prog 275 = some 8 := by kernel_rfl
theorem zero275 : zeroT Tryz.prog 275 = some (.nilFunc) := by kernel_rfl
theorem tk276 : tk Tryz.prog 276 = .array 256 3 := by kernel_rfl
theorem sz276 : sz Tryz.prog 276 = some 256 := by kernel_rfl
theorem byt276 : byt Tryz.prog 276 = some 2048 := by kernel_rfl
theorem zero276 : zeroT Tryz.prog 276 = some (.agg [.int .i64 0, .int .i64 0, .int .i64 0, .int .i64 0, .int .i64 0, .int .i64 0, .int .i64 0, .int .i64 0, .int .i64 0, .int .i64 0, .int .i64 0, .int .i64 0, .int .i64 0, .int .i64 0, .int .i64 0, .int .i64 0, .int .i64 0, .int .i64 0, .int .i64 0, .int .i64 0, .int .i64 0, .int .i64 0, .int .i64 0, .int .i64 0, .int .i64 0, .int .i64 0, .int .i64 0, .int .i64 0, .int .i64 0, .int .i64 0, .int .i64 0, .int .i64 0, .int .i64 0, .int .i64 0, .int .i64 0, .int .i64 0, .int .i64 0, .int .i64 0, .int .i64 0, .int .i64 0, .int .i64 0, .int .i64 0, .int .i64 0, .int .i64 0, .int .i64 0, .int .i64 0, .int .i64 0, .int .i64 0, .int .i64 0, .int .i64 0, .int .i64 0, .int .i64 0, .int .i64 0, .int .i64 0, .int .i64 0, .int .i64 0, .int .i64 0, .int .i64 0, .int .i64 0, .int .i64 0, .int .i64 0, .int .i64 0, .int .i64 0, .int .i64 0, .int .i64 0, .int .i64 0, .int .i64 0, .int .i64 0, .int .i64 0, .int .i64 0, .int .i64 0, .int .i64 0, .int .i64 0, .int .i64 0, .int .i64 0, .int .i64 0, .int .i64 0, .int .i64 0, .int .i64 0, .int .i64 0, .int .i64 0, .int .i64 0, .int .i64 0, .int .i64 0, .int .i64 0, .int .i64 0, .int .i64 0, .int .i64 0, .int .i64 0, .int .i64 0, .int .i64 0, .int .i64 0, .int .i64 0, .int .i64 0, .int .i64 0, .int .i64 0, .int .i64 0, .int .i64 0, .int .i64 0, .int .i64 0, .int .i64 0, .int .i64 0, .int .i64 0, .int .i64 0, .int .i64 0, .int .i64 0, .int .i64 0, .int .i64 0, .int .i64 0, .int .i64 0, .int .i64 0, .int .i64 0, .int .i64 0, .int .i64 0, .int .i64 0, .int .i64 0, .int .i64 0, .int .i64 0, .int .i64 0, .int .i64 0, .int .i64 0, .int .i64 0, .int .i64 0, .int .i64 0, .int .i64 0, .int .i64 0, .int .i64 0, .int .i64 0, .int .i64 0, .int .i64 0, .int .i64 0, .int .i64 0, .int .i64 0, .int .i64 0, .int .i64 0, .int .i64 0, .int .i64 0, .int .i64 0, .int .i64 0, .int .i64 0, .int .i64 0, .int .i64 0, .int .i64 0, .int .i64 0, .int .i64 0, .int .i64 0, .int .i64 0, .int .i64 0, .int .i64 0, .int .i64 0, .int .i64 0, .int .i64 0, .int .i64 0, .int .i64 0, .int .i64 0, .int .i64 0, .int .i64 0, .int .i64 0, .int .i64 0, .int .i64 0, .int .i64 0, .int .i64 0, .int .i64 0, .int .i64 0, .int .i64 0, .int .i64 0, .int .i64 0, .int .i64 0, .int .i64 0, .int .i64 0, .int .i64 0, .int .i64 0, .int .i64 0, .int .i64 0, .int .i64 0, .int .i64 0, .int .i64 0, .int .i64 0, .int .i64 0, .int .i64 0, .int .i64 0, .int .i64 0, .int .i64 0, .int .i64 0, .int .i64 0, .int .i64 0, .int .i64 0, .int .i64 0, .int .i64 0, .int .i64 0, .int .i64 0, .int .i64 0, .int .i64 0, .int .i64 0, .int .i64 0, .int .i64 0, .int .i64 0, .int .i64 0, .int .i64 0, .int .i64 0, .int .i64 0, .int .i64 0, .int .i64 0, .int .i64 0, .int .i64 0, .int .i64 0, .int .i64 0, .int .i64 0, .int .i64 0, .int .i64 0, .int .i64 0, .int .i64 0, .int .i64 0, .int .i64 0, .int .i64 0, .int .i64 0, .int .i64 0, .int .i64 0, .int .i64 0, .int .i64 0, .int .i64 0, .int .i64 0, .int .i64 0, .int .i64 0, .int .i64 0, .int .i64 0, .int .i64 0, .int .i64 0, .int .i64 0, .int .i64 0, .int .i64 0, .int .i64 0, .int .i64 0, .int .i64 0, .int .i64 0, .int .i64 0, .int .i64 0, .int .i64 0, .int .i64 0, .int .i64 0, .int .i64 0, .int .i64 0, .int .i64 0, .int .i64 0, .int .i64 0, .int .i64 0, .int .i64 0, .int .i64 0, .int .i64 0, .int .i64 0, .int .i64 0, .int .i64 0, .int .i64 0, .int .i64 0, .int .i64 0, .int .i64 0]) := by kernel_rfl
theorem tk277 : tk Tryz.prog 277 = .struct [(0, 9), (1, 276), (257, 60)] := by kernel_rfl
theorem sz277 : sz Tryz.prog 277 = some 258 := by kernel_rfl
theorem byt277 : byt Tryz.prog 277 = some 2088 := by kernel_rfl
theorem zero277 : zeroT Tryz.prog 277 = some (.agg [.str ⟨#[]⟩, .int .i64 0, .int .i64 0, .int .i64 0, .int .i64 0, .int .i64 0, .int .i64 0, .int .i64 0, .int .i64 0, .int .i64 0, .int .i64 0, .int .i64 0, .int .i64 0, .int .i64 0, .int .i64 0, .int .i64 0, .int .i64 0, .int .i64 0, .int .i64 0, .int .i64 0, .int .i64 0, .int .i64 0, .int .i64 0, .int .i64 0, .int .i64 0, .int .i64 0, .int .i64 0, .int .i64 0, .int .i64 0, .int .i64 0, .int .i64 0, .int .i64 0, .int .i64 0, .int .i64 0, .int .i64 0, .int .i64 0, .int .i64 0, .int .i64 0, .int .i64 0, .int .i64 0, .int .i64 0, .int .i64 0, .int .i64 0, .int .i64 0, .int .i64 0, .int .i64 0, .int .i64 0, .int .i64 0, .int .i64 0, .int .i64 0, .int .i64 0, .int .i64 0, .int .i64 0, .int .i64 0, .int .i64 0, .int .i64 0, .int .i64 0, .int .i64 0, .int .i64 0, .int .i64 0, .int .i64 0, .int .i64 0, .int .i64 0, .int .i64 0, .int .i64 0, .int .i64 0, .int .i64 0, .int .i64 0, .int .i64 0, .int .i64 0, .int .i64 0, .int .i64 0, .int .i64 0, .int .i64 0, .int .i64 0, .int .i64 0, .int .i64 0, .int .i64 0, .int .i64 0, .int .i64 0, .int .i64 0, .int .i64 0, .int .i64 0, .int .i64 0, .int .i64 0, .int .i64 0, .int .i64 0, .int .i64 0, .int .i64 0, .int .i64 0, .int .i64 0, .int .i64 0, .int .i64 0, .int .i64 0, .int .i64 0, .int .i64 0, .int .i64 0, .int .i64 0, .int .i64 0, .int .i64 0, .int .i64 0, .int .i64 0, .int .i64 0, .int .i64 0, .int .i64 0, .int .i64 0, .int .i64 0, .int .i64 0, .int .i64 0, .int .i64 0, .int .i64 0, .int .i64 0, .int .i64 0, .int .i64 0, .int .i64 0, .int .i64 0, .int .i64 0, .int .i64 0, .int .i64 0, .int .i64 0, .int .i64 0, .int .i64 0, .int .i64 0, .int .i64 0, .int .i64 0, .int .i64 0, .int .i64 0, .int .i64 0, .int .i64 0, .int .i64 0, .int .i64 0, .int .i64 0, .int .i64 0, .int .i64 0, .int .i64 0, .int .i64 0, .int .i64 0, .int .i64 0, .int .i64 0, .int .i64 0, .int .i64 0, .int .i64 0, .int .i64 0, .int .i64 0, .int .i64 0, .int .i64 0, .int .i64 0, .int .i64 0, .int .i64 0, .int .i64 0, .int .i64 0, .int .i64 0, .int .i64 0, .int .i64 0, .int .i64 0, .int .i64 0, .int .i64 0, .int .i64 0, .int .i64 0, .int .i64 0, .int .i64 0, .int .i64 0, .int .i64 0, .int .i64 0, .int .i64 0, .int .i64 0, .int .i64 0, .int .i64 0, .int .i64 0, .int .i64 0, .int .i64 0, .int .i64 0, .int .i64 0, .int .i64 0, .int .i64 0, .int .i64 0, .int .i64 0, .int .i64 0, .int .i64 0, .int .i64 0, .int .i64 0, .int .i64 0, .int .i64 0, .int .i64 0, .int .i64 0, .int .i64 0, .int .i64 0, .int .i64 0, .int .i64 0, .int .i64 0, .int .i64 0, .int .i64 0, .int .i64 0, .int .i64 0, .int .i64 0, .int .i64 0, .int .i64 0, .int .i64 0, .int .i64 0, .int .i64 0, .int .i64 0, .int .i64 0, .int .i64 0, .int .i64 0, .int .i64 0, .int .i64 0, .int .i64 0, .int .i64 0, .int .i64 0, .int .i64 0, .int .i64 0, .int .i64 0, .int .i64 0, .int .i64 0, .int .i64 0, .int .i64 0, .int .i64 0, .int .i64 0, .int .i64 0, .int .i64 0, .int .i64 0, .int .i64 0, .int .i64 0, .int .i64 0, .int .i64 0, .int .i64 0, .int .i64 0, .int .i64 0, .int .i64 0, .int .i64 0, .int .i64 0, .int .i64 0, .int .i64 0, .int .i64 0, .int .i64 0, .int .i64 0, .int .i64 0, .int .i64 0, .int .i64 0, .int .i64 0, .int .i64 0, .int .i64 0, .int .i64 0, .int .i64 0, .int .i64 0, .int .i64 0, .int .i64 0, .int .i64 0, .int .i64 0, .int .i64 0, .int .i64 0, .int .i64 0, .int .i64 0, .int .i64 0, .int .i64 0, .int .i64 0, .int .i64 0, .nilSlice]) := by kernel_rfl
theorem tk278 : tk Tryz.prog 278 = .struct [(0, 9), (1, 276), (257, 60)] := by kernel_rfl
theorem sz278 : sz Tryz.prog 278 = some 258 := by kernel_rfl
theorem byt278 : byt Tryz.prog 278 = some 2088 := by kernel_rfl
theorem zero278 : zeroT Tryz.prog 278 = some (.agg [.str ⟨#[]⟩, .int .i64 0, .int .i64 0, .int .i64 0, .int .i64 0, .int .i64 0, .int .i64 0, .int .i64 0, .int .i64 0, .int .i64 0, .int .i64 0, .int .i64 0, .int .i64 0, .int .i64 0, .int .i64 0, .int .i64 0, .int .i64 0, .int .i64 0, .int .i64 0, .int .i64 0, .int .i64 0, .int .i64 0, .int .i64 0, .int .i64 0, .int .i64 0, .int .i64 0, .int .i64 0, .int .i64 0, .int .i64 0, .int .i64 0, .int .i64 0, .int .i64 0, .int .i64 0, .int .i64 0, .int .i64 0, .int .i64 0, .int .i64 0, .int .i64 0, .int .i64 0, .int .i64 0, .int .i64 0, .int .i64 0, .int .i64 0, .int .i64 0, .int .i64 0, .int .i64 0, .int .i64 0, .int .i64 0, .int .i64 0, .int .i64 0, .int .i64 0, .int .i64 0, .int .i64 0, .int .i64 0, .int .i64 0, .int .i64 0, .int .i64 0, .int .i64 0, .int .i64 0, .int .i64 0, .int .i64 0, .int .i64 0, .int .i64 0, .int .i64 0, .int .i64 0, .int .i64 0, .int .i64 0, .int .i64 0, .int .i64 0, .int .i64 0, .int .i64 0, .int .i64 0, .int .i64 0, .int .i64 0, .int .i64 0, .int .i64 0, .int .i64 0, .int .i64 0, .int .i64 0, .int .i64 0, .int .i64 0, .int .i64 0, .int .i64 0, .int .i64 0, .int .i64 0, .int .i64 0, .int .i64 0, .int .i64 0, .int .i64 0, .int .i64 0, .int .i64 0, .int .i64 0, .int .i64 0, .int .i64 0, .int .i64 0, .int .i64 0, .int .i64 0, .int .i64 0, .int .i64 0, .int .i64 0, .int .i64 0, .int .i64 0, .int .i64 0, .int .i64 0, .int .i64 0, .int .i64 0, .int .i64 0, .int .i64 0, .int .i64 0, .int .i64 0, .int .i64 0, .int .i64 0, .int .i64 0, .int .i64 0, .int .i64 0, .int .i64 0, .int .i64 0, .int .i64 0, .int .i64 0, .int .i64 0, .int .i64 0, .int .i64 0, .int .i64 0, .int .i64 0, .int .i64 0, .int .i64 0, .int .i64 0, .int .i64 0, .int .i64 0, .int .i64 0, .int .i64 0, .int .i64 0, .int .i64 0, .int .i64 0, .int .i64 0, .int .i64 0, .int .i64 0, .int .i64 0, .int .i64 0, .int .i64 0, .int .i64 0, .int .i64 0, .int .i64 0, .int .i64 0, .int .i64 0, .int .i64 0, .int .i64 0, .int .i64 0, .int .i64 0, .int .i64 0, .int .i64 0, .int .i64 0, .int .i64 0, .int .i64 0, .int .i64 0, .int .i64 0, .int .i64 0, .int .i64 0, .int .i64 0, .int .i64 0, .int .i64 0, .int .i64 0, .int .i64 0, .int .i64 0, .int .i64 0, .int .i64 0, .int .i64 0, .int .i64 0, .int .i64 0, .int .i64 0, .int .i64 0, .int .i64 0, .int .i64 0, .int .i64 0, .int .i64 0, .int .i64 0, .int .i64 0, .int .i64 0, .int .i64 0, .int .i64 0, .int .i64 0, .int .i64 0, .int .i64 0, .int .i64 0, .int .i64 0, .int .i64 0, .int .i64 0, .int .i64 0, .int .i64 0, .int .i64 0, .int .i64 0, .int .i64 0, .int .i64 0, .int .i64 0, .int .i64 0, .int .i64 0, .int .i64 0, .int .i64 0, .int .i64 0, .int .i64 0, .int .i64 0, .int .i64 0, .int .i64 0, .int .i64 0, .int .i64 0, .int .i64 0, .int .i64 0, .int .i64 0, .int .i64 0, .int .i64 0, .int .i64 0, .int .i64 0, .int .i64 0, .int .i64 0, .int .i64 0, .int .i64 0, .int .i64 0, .int .i64 0, .int .i64 0, .int .i64 0, .int .i64 0, .int .i64 0, .int .i64 0, .int .i64 0, .int .i64 0, .int .i64 0, .int .i64 0, .int .i64 0, .int .i64 0, .int .i64 0, .int .i64 0, .int .i64 0, .int .i64 0, .int .i64 0, .int .i64 0, .int .i64 0, .int .i64 0, .int .i64 0, .int .i64 0, .int .i64 0, .int .i64 0, .int .i64 0, .int .i64 0, .int .i64 0, .int .i64 0, .int .i64 0, .int .i64 0, .int .i64 0, .int .i64 0, .int .i64 0, .int .i64 0, .int .i64 0, .int .i64 0, .int .i64 0, .int .i64 0, .int .i64 0, .int .i64 0, .nilSlice]) := by kernel_rfl
theorem tk279 : tk Tryz.prog 279 = .map 9 3 := by kernel_rfl
theorem sz279 : sz Tryz.prog 279 = some 1 := by kernel_rfl
theorem byt279 : byt Tryz.prog 279 = some 8 := by kernel_rfl
theorem zero279 : zeroT Tryz.prog 279 = some (.nilMap) := by kernel_rfl
theorem tk280 : tk Tryz.prog 280 = .func := by kernel_rfl
theorem sz280 : sz Tryz.prog 280 = some 1 := by kernel_rfl
theorem byt280 : byt Tryz.prog 280 = some 8 := by kernel_rfl
theorem zero280 : zeroT Tryz.prog 280 = some (.nilFunc) := by kernel_rfl
theorem tk281 : tk Tryz.prog 281 = .func := by kernel_rfl
theorem sz281 : sz Tryz.prog 281 = some 1 := by kernel_rfl
theorem byt281 : byt Tryz.prog 281 = some 8 := by kernel_rfl
theorem zero281 : zeroT Tryz.prog 281 = some (.nilFunc) := by kernel_rfl
theorem tk282 : tk Tryz.prog 282 = .func := by kernel_rfl
theorem sz282 : sz Tryz.prog 282 = some 1 := by kernel_rfl
theorem byt282 : byt Tryz.prog 282 = some 8 := by kernel_rfl
theorem zero282 : zeroT Tryz.prog 282 = some (.nilFunc) := by kernel_rfl
theorem tk284 : tk Tryz.prog 284 = .func := by kernel_rfl
theorem sz284 : sz Tryz.prog 284 = some 1 := by kernel_rfl
theorem byt284 : byt Tryz.prog 284 = some 8 := by kernel_rfl
theorem zero284 : zeroT Tryz.prog 284 = some (.nilFunc) := by kernel_rfl
theorem tk285 : tk Tryz.prog 285 = .struct [(0, 17), (1, 17), (2, 17), (3, 9)] := by kernel_rfl
theorem sz285 : sz Tryz.prog 285 = some 4 := by kernel_rfl
theorem byt285 : byt Tryz.prog 285 = some 40 := by kernel_rfl
theorem zero285 : zeroT Tryz.prog 285 = some (.agg [.nilPtr, .nilPtr, .nilPtr, .str ⟨#[]⟩]) := by kernel_rfl
theorem tk286 : tk Tryz.prog 286 = .struct [(0, 17), (1, 17), (2, 17), (3, 9)] := by kernel_rfl
theorem sz286 : sz Tryz.prog 286 = some 4 := by kernel_rfl
theorem byt286 : byt Tryz.prog 286 = some 40 := by kernel_rfl
theorem zero286 : zeroT Tryz.prog 286 = some (.agg [.nilPtr, .nilPtr, .nilPtr, .str ⟨#[]⟩]) := by kernel_rfl
theorem tk287 : tk Tryz.prog 287 = .array 0 16 := by kernel_rfl
theorem sz287 : sz Tryz.prog 287 = some 0 := by kernel_rfl
theorem byt287 : byt Tryz.prog 287 = some 0 := by kernel_rfl
theorem zero287 : zeroT Tryz.prog 287 = some (.agg []) := by kernel_rfl
theorem tk288 : tk Tryz.prog 288 = .struct [(0, 287)] := by kernel_rfl
theorem sz288 : sz Tryz.prog 288 = some 0 := by kernel_rfl
theorem byt288 : byt Tryz.prog 288 = some 0 := by kernel_rfl
theorem zero288 : zeroT Tryz.prog 288 = some (.agg []) := by kernel_rfl
theorem tk289 : tk Tryz.prog 289 = .struct [(0, 287)] := by kernel_rfl
theorem sz289 : sz Tryz.prog 289 = some 0 := by kernel_rfl
theorem byt289 : byt Tryz.prog 289 = some 0 := by kernel_rfl
theorem zero289 : zeroT Tryz.prog 289 = some (.agg []) := by kernel_rfl
theorem tk290 : tk Tryz.prog 290 = .int .u8 := by kernel_rfl
theorem sz290 : sz Tryz.prog 290 = some 1 := by kernel_rfl
theorem byt290 : byt Tryz.prog 290 = some 1 := by kernel_rfl
theorem zero290 : zeroT Tryz.prog 290 = some (.int .u8 0) := by kernel_rfl
theorem tk291 : tk Tryz.prog 291 = .int .u8 := by kernel_rfl
theorem sz291 : sz Tryz.prog 291 = some 1 := by kernel_rfl
theorem byt291 : byt Tryz.prog 291 = some 1 := by kernel_rfl
theorem zero291 : zeroT Tryz.prog 291 = some (.int .u8 0) := by kernel_rfl
theorem tk292 : tk Tryz.prog 292 = .func := by kernel_rfl
theorem sz292 : sz Tryz.prog 292 = some 1 := by kernel_rfl
theorem byt292 : byt Tryz.prog 292 = some 8 := by kernel_rfl
theorem zero292 : zeroT Tryz.prog 292 = some (.nilFunc) := by kernel_rfl
theorem tk293 : tk Tryz.prog 293 = .int .i32 := by kernel_rfl
theorem sz293 : sz Tryz.prog 293 = some 1 := by kernel_rfl
theorem byt293 : byt Tryz.prog 293 = some 4 := by kernel_rfl
theorem zero293 : zeroT Tryz.prog 293 = some (.int .i32 0) := by kernel_rfl
theorem tk294 : tk Tryz.prog 294 = .int .i32 := by kernel_rfl
theorem sz294 : sz Tryz.prog 294 = some 1 := by kernel_rfl
theorem byt294 : byt Tryz.prog 294 = some 4 := by kernel_rfl
theorem zero294 : zeroT Tryz.prog 294 = some (.int .i32 0) := by kernel_rfl
theorem tk295 : tk Tryz.prog 295 = .struct [(0, 12), (1, 12), (2, 191), (3, 290), (4, 5), (5, 5), (6, 291), (7, 292), (8, 263), (9, 293), (10, 294)] := by kernel_rfl
theorem sz295 : sz Tryz.prog 295 = some 11 := by kernel_rfl
theorem byt295 : byt Tryz.prog 295 = some 48 := by kernel_rfl
theorem zero295 : zeroT Tryz.prog 295 = some (.agg [.int .u64 0, .int .u64 0, .int .u32 0, .int .u8 0, .int .u8 0, .int .u8 0, .int .u8 0, .nilFunc, .nilPtr, .int .i32 0, .int .i32 0]) := by kernel_rfl
theorem tk296 : tk Tryz.prog 296 = .struct [(0, 12), (1, 12), (2, 191), (3, 290), (4, 5), (5, 5), (6, 291), (7, 292), (8, 263), (9, 293), (10, 294)] := by kernel_rfl
theorem sz296 : sz Tryz.prog 296 = some 11 := by kernel_rfl
theorem byt296 : byt Tryz.prog 296 = some 48 := by kernel_rfl
theorem zero296 : zeroT Tryz.prog 296 = some (.agg [.int .u64 0, .int .u64 0, .int .u32 0, .int .u8 0, .int .u8 0, .int .u8 0, .int .u8 0, .nilFunc, .nilPtr, .int .i32 0, .int .i32 0]) := by kernel_rfl
theorem tk297 : tk Tryz.prog 297 = .func := by kernel_rfl
theorem sz297 : sz Tryz.prog 297 = some 1 := by kernel_rfl
theorem byt297 : byt Tryz.prog 297 = some 8 := by kernel_rfl
theorem zero297 : zeroT Tryz.prog 297 = some (.nilFunc) := by kernel_rfl
theorem tk298 : tk Tryz.prog 298 = .ptr 300 := by kernel_rfl
theorem sz298 : sz Tryz.prog 298 = some 1 := by kernel_rfl
theorem byt298 : byt Tryz.prog 298 = some 8 := by kernel_rfl
theorem zero298 : zeroT Tryz.prog 298 = some (.nilPtr) := by kernel_rfl
theorem tk299 : tk Tryz.prog 299 = .struct [(0, 298), (1, 163)] := by kernel_rfl
theorem sz299 : sz Tryz.prog 299 = some 2 := by kernel_rfl
theorem byt299 : byt Tryz.prog 299 = some 32 := by kernel_rfl
theorem zero299 : zeroT Tryz.prog 299 = some (.agg [.nilPtr, .nilSlice]) := by kernel_rfl
theorem tk300 : tk Tryz.prog 300 = .struct [(0, 298), (1, 163)] := by kernel_rfl
theorem sz300 : sz Tryz.prog 300 = some 2 := by kernel_rfl
theorem byt300 : byt Tryz.prog 300 = some 32 := by kernel_rfl
theorem zero300 : zeroT Tryz.prog 300 = some (.agg [.nilPtr, .nilSlice]) := by kernel_rfl
theorem tk302 : tk Tryz.prog 302 = .func := by kernel_rfl
theorem sz302 : sz Tryz.prog 302 = some 1 := by kernel_rfl
theorem byt302 : byt Tryz.prog 302 = some 8 := by kernel_rfl
theorem zero302 : zeroT Tryz.prog 302 = some (.nilFunc) := by kernel_rfl
theorem tk303 : tk Tryz.prog 303 = .func := by kernel_rfl
theorem sz303 : sz Tryz.prog 303 = some 1 := by kernel_rfl
theorem byt303 : byt Tryz.prog 303 = some 8 := by kernel_rfl
theorem zero303 : zeroT Tryz.prog 303 = some (.nilFunc) := by kernel_rfl
theorem tk304 : tk Tryz.prog 304 = .func := by kernel_rfl
theorem sz304 : sz Tryz.prog 304 = some 1 := by kernel_rfl
theorem byt304 : byt Tryz.prog 304 = some 8 := by kernel_rfl
theorem zero304 : zeroT Tryz.prog 304 = some (.nilFunc) := by kernel_rfl
theorem tk305 : tk Tryz.prog 305 = .slice 5 := by kernel_rfl
theorem sz305 : sz Tryz.prog 305 = some 1 := by kernel_rfl
theorem byt305 : byt Tryz.prog 305 = some 24 := by kernel_rfl
theorem zero305 : zeroT Tryz.prog 305 = some (.nilSlice) := by kernel_rfl
theorem tk306 : tk Tryz.prog 306 = .ptr 305 := by kernel_rfl
theorem sz306 : sz Tryz.prog 306 = some 1 := by kernel_rfl
theorem byt306 : byt Tryz.prog 306 = some 8 := by kernel_rfl
theorem zero306 : zeroT Tryz.prog 306 = some (.nilPtr) := by kernel_rfl
theorem tk307 : tk Tryz.prog 307 = .iface := by kernel_rfl
theorem sz307 : sz Tryz.prog 307 = some 1 := by kernel_rfl
theorem byt307 : byt Tryz.prog 307 = some 16 := by kernel_rfl
theorem zero307 : zeroT Tryz.prog 307 = some (.nilIface) := by kernel_rfl
theorem tk308 : tk Tryz.prog 308 = .iface := by kernel_rfl
theorem sz308 : sz Tryz.prog 308 = some 1 := by kernel_rfl
theorem byt308 : byt Tryz.prog 308 = some 16 := by kernel_rfl
theorem zero308 : zeroT Tryz.prog 308 = some (.nilIface) := by kernel_rfl
theorem tk309 : tk Tryz.prog 309 = .iface := by kernel_rfl
theorem sz309 : sz Tryz.prog 309 = some 1 := by kernel_rfl
theorem byt309 : byt Tryz.prog 309 = some 16 := by kernel_rfl
theorem zero309 : zeroT Tryz.prog 309 = some (.nilIface) := by kernel_rfl
theorem tk310 : tk Tryz.prog 310 = .iface := by kernel_rfl
theorem sz310 : sz Tryz.prog 310 = some 1 := by kernel_rfl
theorem byt310 : byt Tryz.prog 310 = some 16 := by kernel_rfl
theorem zero310 : zeroT Tryz.prog 310 = some (.nilIface) := by kernel_rfl
theorem tk311 : tk Tryz.prog 311 = .func := by kernel_rfl
theorem sz311 : sz Tryz.prog 311 = some 1 := by kernel_rfl
theorem byt311 : byt Tryz.prog 311 = some 8 := by kernel_rfl
theorem zero311 : zeroT Tryz.prog 311 = some (.nilFunc) := by kernel_rfl
theorem tk313 : tk Tryz.prog 313 = .func := by kernel_rfl
theorem sz313 : sz Tryz.prog 313 = some 1 := by kernel_rfl
theorem byt313 : byt Tryz.prog 313 = some 8 := by kernel_rfl
theorem zero313 : zeroT Tryz.prog 313 = some (.nilFunc) := by kernel_rfl
theorem tk315 : tk Tryz.prog 315 = .struct [(0, 308)] := by kernel_rfl
theorem sz315 : sz Tryz.prog 315 = some 1 := by kernel_rfl
theorem byt315 : byt Tryz.prog 315 = some 16 := by kernel_rfl
theorem zero315 : zeroT Tryz.prog 315 = some (.agg [.nilIface]) := by kernel_rfl
theorem tk316 : tk Tryz.prog 316 = .struct [(0, 308)] := by kernel_rfl
theorem sz316 : sz Tryz.prog 316 = some 1 := by kernel_rfl
theorem byt316 : byt Tryz.prog 316 = some 16 := by kernel_rfl
theorem zero316 : zeroT Tryz.prog 316 = some (.agg [.nilIface]) := by kernel_rfl
theorem tk317 : tk Tryz.prog 317 = .func := by kernel_rfl
theorem sz317 : sz Tryz.prog 317 = some 1 := by kernel_rfl
theorem byt317 : byt Tryz.prog 317 = some 8 := by kernel_rfl
theorem zero317 : zeroT Tryz.prog 317 = some (.nilFunc) := by kernel_rfl
theorem tk318 : tk Tryz.prog 318 = .func := by kernel_rfl
theorem sz318 : sz Tryz.prog 318 = some 1 := by kernel_rfl
theorem byt318 : byt Tryz.prog 318 = some 8 := by kernel_rfl
theorem zero318 : zeroT Tryz.prog 318 = some (.nilFunc) := by kernel_rfl
theorem tk320 : tk Tryz.prog 320 = .func := by kernel_rfl
theorem sz320 : sz Tryz.prog 320 = some 1 := by kernel_rfl
theorem byt320 : byt Tryz.prog 320 = some 8 := by kernel_rfl
theorem zero320 : zeroT Tryz.prog 320 = some (.nilFunc) := by kernel_rfl
attribute [simp] tk1 sz1 byt1 zero1 tk2 sz2 byt2 zero2 tk3 sz3 byt3 zero3 tk4 sz4 byt4 zero4 tk5 sz5 byt5 zero5 tk6 sz6 byt6 zero6 tk7 sz7 byt7 zero7 tk8 sz8 byt8 zero8 tk9 sz9 byt9 zero9 tk10 sz10 byt10 zero10 tk11 sz11 byt11 zero11 tk12 sz12 byt12 zero12 tk13 sz13 byt13 zero13 tk14 sz14 byt14 zero14 tk15 sz15 byt15 zero15 tk16 sz16 byt16 zero16 tk17 sz17 byt17 zero17 tk18 sz18 byt18 zero18 tk19 sz19 byt19 zero19 tk20 sz20 byt20 zero20 tk21 sz21 byt21 zero21 tk22 sz22 byt22 zero22 tk23 sz23 byt23 zero23 tk24 sz24 byt24 zero24 tk25 sz25 byt25 zero25 tk26 sz26 byt26 zero26 tk27 sz27 byt27 zero27 tk29 sz29 byt29 zero29 tk31 sz31 byt31 zero31 tk32 sz32 byt32 zero32 tk33 sz33 byt33 zero33 tk34 sz34 byt34 zero34 tk35 sz35 byt35 zero35 tk36 sz36 byt36 zero36 tk37 sz37 byt37 zero37 tk38 sz38 byt38 zero38 tk40 sz40 byt40 zero40 tk41 sz41 byt41 zero41 tk43 sz43 byt43 zero43 tk45 sz45 byt45 zero45 tk47 sz47 byt47 zero47 tk48 sz48 byt48 zero48 tk49 sz49 byt49 zero49 tk50 sz50 byt50 zero50 tk51 sz51 byt51 zero51 tk52 sz52 byt52 zero52 tk53 sz53 byt53 zero53 tk54 sz54 byt54 zero54 tk55 sz55 byt55 zero55 tk56 sz56 byt56 zero56 tk57 sz57 byt57 zero57 tk58 sz58 byt58 zero58 tk59 sz59 byt59 zero59 tk60 sz60 byt60 zero60 tk61 sz61 byt61 zero61 tk62 sz62 byt62 zero62 tk63 sz63 byt63 zero63 tk64 sz64 byt64 zero64 tk66 sz66 byt66 zero66 tk67 sz67 byt67 zero67 tk69 sz69 byt69 zero69 tk71 sz71 byt71 zero71 tk72 sz72 byt72 zero72 tk73 sz73 byt73 zero73 tk74 sz74 byt74 zero74 tk75 sz75 byt75 zero75 tk76 sz76 byt76 zero76 tk77 sz77 byt77 zero77 tk78 sz78 byt78 zero78 tk79 sz79 byt79 zero79 tk80 sz80 byt80 zero80 tk82 sz82 byt82 zero82 tk83 sz83 byt83 zero83 tk84 sz84 byt84 zero84 tk85 sz85 byt85 zero85 tk86 sz86 byt86 zero86 tk87 sz87 byt87 zero87 tk88 sz88 byt88 zero88 tk89 sz89 byt89 zero89 tk90 sz90 byt90 zero90 tk91 sz91 byt91 zero91 tk92 sz92 byt92 zero92 tk93 sz93 byt93 zero93 tk94 sz94 byt94 zero94 tk95 sz95 byt95 zero95 tk96 sz96 byt96 zero96 tk98 sz98 byt98 zero98 tk99 sz99 byt99 zero99 tk100 sz100 byt100 zero100 tk101 sz101 byt101 zero101 tk102 sz102 byt102 zero102 tk103 sz103 byt103 zero103 tk104 sz104 byt104 zero104 tk105 sz105 byt105 zero105 tk106 sz106 byt106 zero106 tk108 sz108 byt108 zero108 tk109 sz109 byt109 zero109 tk110 sz110 byt110 zero110 tk111 sz111 byt111 zero111 tk112 sz112 byt112 zero112 tk113 sz113 byt113 zero113 tk114 sz114 byt114 zero114 tk115 sz115 byt115 zero115 tk116 sz116 byt116 zero116 tk117 sz117 byt117 zero117 tk118 sz118 byt118 zero118 tk119 sz119 byt119 zero119 tk120 sz120 byt120 zero120 tk121 sz121 byt121 zero121 tk122 sz122 byt122 zero122 tk124 sz124 byt124 zero124 tk126 sz126 byt126 zero126 tk127 sz127 byt127 zero127 tk129 sz129 byt129 zero129 tk130 sz130 byt130 zero130 tk132 sz132 byt132 zero132 tk133 sz133 byt133 zero133 tk134 sz134 byt134 zero134 tk136 sz136 byt136 zero136 tk137 sz137 byt137 zero137 tk138 sz138 byt138 zero138 tk139 sz139 byt139 zero139 tk140 sz140 byt140 zero140 tk142 sz142 byt142 zero142 tk143 sz143 byt143 zero143 tk144 sz144 byt144 zero144 tk145 sz145 byt145 zero145 tk146 sz146 byt146 zero146 tk147 sz147 byt147 zero147 tk149 sz149 byt149 zero149 tk150 sz150 byt150 zero150 tk151 sz151 byt151 zero151 tk152 sz152 byt152 zero152 tk153 sz153 byt153 zero153 tk154 sz154 byt154 zero154 tk155 sz155 byt155 zero155 tk156 sz156 byt156 zero156 tk157 sz157 byt157 zero157 tk158 sz158 byt158 zero158 tk159 sz159 byt159 zero159 tk160 sz160 byt160 zero160 tk161 sz161 byt161 zero161 tk162 sz162 byt162 zero162 tk163 sz163 byt163 zero163 tk164 sz164 byt164 zero164 tk165 sz165 byt165 zero165 tk166 sz166 byt166 zero166 tk167 sz167 byt167 zero167 tk168 sz168 byt168 zero168 tk169 sz169 byt169 zero169 tk170 sz170 byt170 zero170 tk171 sz171 byt171 zero171 tk172 sz172 byt172 zero172 tk173 sz173 byt173 zero173 tk174 sz174 byt174 zero174 tk175 sz175 byt175 zero175 tk176 sz176 byt176 zero176 tk177 sz177 byt177 zero177 tk178 sz178 byt178 zero178 tk179 sz179 byt179 zero179 tk180 sz180 byt180 zero180 tk181 sz181 byt181 zero181 tk183 sz183 byt183 zero183 tk184 sz184 byt184 zero184 tk185 sz185 byt185 zero185 tk186 sz186 byt186 zero186 tk187 sz187 byt187 zero187 tk188 sz188 byt188 zero188 tk189 sz189 byt189 zero189 tk190 sz190 byt190 zero190 tk191 sz191 byt191 zero191 tk192 sz192 byt192 zero192 tk193 sz193 byt193 zero193 tk194 sz194 byt194 zero194 tk195 sz195 byt195 zero195 tk196 sz196 byt196 zero196 tk197 sz197 byt197 zero197 tk198 sz198 byt198 zero198 tk199 sz199 byt199 zero199 tk200 sz200 byt200 zero200 tk201 sz201 byt201 zero201 tk202 sz202 byt202 zero202 tk203 sz203 byt203 zero203 tk204 sz204 byt204 zero204 tk205 sz205 byt205 zero205 tk206 sz206 byt206 zero206 tk207 sz207 byt207 zero207 tk208 sz208 byt208 zero208 tk209 sz209 byt209 zero209 tk210 sz210 byt210 zero210 tk211 sz211 byt211 zero211 tk213 sz213 byt213 zero213 tk214 sz214 byt214 zero214 tk215 sz215 byt215 zero215 tk216 sz216 byt216 zero216 tk217 sz217 byt217 zero217 tk219 sz219 byt219 zero219 tk220 sz220 byt220 zero220 tk221 sz221 byt221 zero221 tk222 sz222 byt222 zero222 tk223 sz223 byt223 zero223 tk224 sz224 byt224 zero224 tk225 sz225 byt225 zero225 tk226 sz226 byt226 zero226 tk227 sz227 byt227 zero227 tk228 sz228 byt228 zero228 tk229 sz229 byt229 zero229 tk230 sz230 byt230 zero230 tk231 sz231 byt231 zero231 tk232 sz232 byt232 zero232 tk233 sz233 byt233 zero233 tk234 sz234 byt234 zero234 tk235 sz235 byt235 zero235 tk236 sz236 byt236 zero236 tk237 sz237 byt237 zero237 tk238 sz238 byt238 zero238 tk239 sz239 byt239 zero239 tk240 sz240 byt240 zero240 tk241 sz241 byt241 zero241 tk242 sz242 byt242 zero242 tk243 sz243 byt243 zero243 tk244 sz244 byt244 zero244 tk245 sz245 byt245 zero245 tk246 sz246 byt246 zero246 tk247 sz247 byt247 zero247 tk248 sz248 byt248 zero248 tk249 sz249 byt249 zero249 tk250 sz250 byt250 zero250 tk251 sz251 byt251 zero251 tk252 sz252 byt252 zero252 tk253 sz253 byt253 zero253 tk254 sz254 byt254 zero254 tk255 sz255 byt255 zero255 tk256 sz256 byt256 zero256 tk257 sz257 byt257 zero257 tk258 sz258 byt258 zero258 tk259 sz259 byt259 zero259 tk260 sz260 byt260 zero260 tk261 sz261 byt261 zero261 tk262 sz262 byt262 zero262 tk263 sz263 byt263 zero263 tk264 sz264 byt264 zero264 tk265 sz265 byt265 zero265 tk266 sz266 byt266 zero266 tk267 sz267 byt267 zero267 tk268 sz268 byt268 zero268 tk269 sz269 byt269 zero269 tk270 sz270 byt270 zero270 tk271 sz271 byt271 zero271 tk272 sz272 byt272 zero272 tk274 sz274 byt274 zero274 tk275 sz275 byt275 zero275 tk276 sz276 byt276 zero276 tk277 sz277 byt277 zero277 tk278 sz278 byt278 zero278 tk279 sz279 byt279 zero279 tk280 sz280 byt280 zero280 tk281 sz281 byt281 zero281 tk282 sz282 byt282 zero282 tk284 sz284 byt284 zero284 tk285 sz285 byt285 zero285 tk286 sz286 byt286 zero286 tk287 sz287 byt287 zero287 tk288 sz288 byt288 zero288 tk289 sz289 byt289 zero289 tk290 sz290 byt290 zero290 tk291 sz291 byt291 zero291 tk292 sz292 byt292 zero292 tk293 sz293 byt293 zero293 tk294 sz294 byt294 zero294 tk295 sz295 byt295 zero295 tk296 sz296 byt296 zero296 tk297 sz297 byt297 zero297 tk298 sz298 byt298 zero298 tk299 sz299 byt299 zero299 tk300 sz300 byt300 zero300 tk302 sz302 byt302 zero302 tk303 sz303 byt303 zero303 tk304 sz304 byt304 zero304 tk305 sz305 byt305 zero305 tk306 sz306 byt306 zero306 tk307 sz307 byt307 zero307 tk308 sz308 byt308 zero308 tk309 sz309 byt309 zero309 tk310 sz310 byt310 zero310 tk311 sz311 byt311 zero311 tk313 sz313 byt313 zero313 tk315 sz315 byt315 zero315 tk316 sz316 byt316 zero316 tk317 sz317 byt317 zero317 tk318 sz318 byt318 zero318 tk320 sz320 byt320 zero320
end Go.Proofs.YtaldobgfbkllfaaGreatDoor

namespace Go.Proofs.YtaldobgfbkllfaaGreatDoor
open Vai
def md : FuncId → FuncId → Vai.Mode := fun c k => if [19, 28, 40, 41, 42, 48, 50, 51, 52, 60, 61, 62, 64, 71, 73, 74, 75, 76, 77, 78, 91, 92, 93, 94, 95, 96, 99, 100, 101, 102, 107, 118, 120, 122, 123, 124, 125, 126, 127, 128, 129, 130, 133, 138, 154, 155, 156, 157, 158, 168, 173, 188, 205, 215, 226, 235].contains k || (c == 55 && k == 98) then .keep else .pure
def lits : TypeId → Bool := fun t => [22, 23, 32, 60, 80, 94].contains t
def hards : FuncId → Nat → Option (List (Nat × Nat)) := fun k i => if k == 20 && i == 12 then some [(0, 1)] else if k == 26 && i == 14 then some [(0, 1)] else if k == 31 && i == 11 then some [(2, 1), (3, 1), (4, 1), (6, 1), (7, 1), (8, 1)] else if k == 35 && i == 15 then some [(0, 1), (1, 1), (2, 1)] else if k == 35 && i == 17 then some [(0, 1), (1, 1), (2, 1)] else if k == 35 && i == 19 then some [(0, 1), (0, 2), (1, 1), (1, 2), (2, 1), (2, 2), (8, 0), (9, 0)] else if k == 37 && i == 8 then some [(2, 1), (3, 1), (4, 1), (7, 1), (8, 1), (9, 1), (12, 1), (13, 1), (14, 1)] else if k == 41 && i == 34 then some [(6, 1), (7, 1), (8, 1), (10, 4)] else if k == 44 && i == 3 then some [(1, 1), (2, 1)] else if k == 83 && i == 8 then some [(2, 0), (3, 0)] else if k == 91 && i == 15 then some [(1, 1), (2, 1), (3, 1), (5, 1), (6, 1), (7, 1), (8, 1), (9, 1)] else if k == 95 && i == 1 then some [(2, 1), (3, 1), (4, 1)] else if k == 106 && i == 4 then some [(1, 1)] else if k == 120 && i == 1 then some [(2, 1), (3, 1), (4, 1)] else if k == 128 && i == 1 then some [(2, 1), (3, 1), (4, 1)] else if k == 153 && i == 7 then some [(0, 1), (1, 1), (2, 1), (3, 1)] else if k == 153 && i == 9 then some [(0, 1), (0, 2), (1, 1), (1, 2), (2, 1), (2, 2), (3, 1), (3, 2)] else if k == 153 && i == 10 then some [(0, 1), (0, 2), (0, 3), (1, 1), (1, 2), (1, 3), (2, 1), (2, 2), (2, 3), (3, 1), (3, 2), (3, 3)] else if k == 226 && i == 5 then some [(0, 1), (1, 1)] else if k == 65 && i == 2 then some [(1, 0), (2, 0)] else none
noncomputable def cx : Cx := ⟨Tryz.prog, md, lits, hards⟩
/-- strconv.ParseInt(s, 10, 64): what it answers. -/
def parseA : ACall := fun _ args h => match args with
  | [.t (.str s), .t (.int .i64 b), .t (.int .i64 z)] => if b = 10 ∧ z = 64 ∧ s.size ≤ 1000000000 then match Lib.parseIntB 64 s.data.toList with
      | .ok v => some (.tup [.t (.int .i64 v), .t .nilIface], h)
      | _ => some (.tup [.undef, .iface 220 .undef], h)
    else none
  | _ => none
/-- A number's digits, at most so many. -/
def decF : Nat → Nat → List UInt8
  | 0, _ => []
  | f + 1, n => if n < 10 then [UInt8.ofNat (48 + n)] else decF f (n / 10) ++ [UInt8.ofNat (48 + n % 10)]
def itoaF (n : Int) : List UInt8 := if n < 0 then 45 :: decF 20 n.natAbs else decF 20 n.toNat
/-- strconv.FormatInt(n, 10). -/
def fmtA : ACall := fun _ args h => match args with
  | [.t (.int .i64 n), .t (.int .i64 b)] => if b = 10 ∧ -9223372036854775808 ≤ n ∧ n ≤ 9223372036854775807 then some (.t (.str ⟨(itoaF n).toArray⟩), h) else none
  | _ => none
/-- strings.Compare. -/
def cmpA : ACall := fun _ args h => match args with
  | [.t (.str a), .t (.str b)] => some (.t (.int .i64 (Lib.compareBytes a.data.toList b.data.toList)), h)
  | _ => none
/-- Go's own functions. -/
def prim0 : FuncId → Option ACall := fun k => if k = 154 then some parseA else if k = 133 then some fmtA else if k = 101 then some cmpA else if k = 40 then some (fun _ _ _ => none) else none
/-- Which functions are in order, as bits. -/
def okT : Nat := 4081802742770806847995345542047501904553742180423943267649582191557428017380086540088115196
/-- What Kind and parse call. -/
noncomputable def c0 [Gl] : ACall := callQ cx okT prim0 100000
def seqL : Code → Code | .seq a _ => a | c => c
def seqR : Code → Code | .seq _ b => b | c => c
def regOps : Code → Array Oper | .region _ ops _ => ops | _ => #[]
/-- parse: its closure recovers. -/
noncomputable def G40 : Grd := ⟨40, 74, Tryz.f40, Tryz.f74, 2, 3, seqL (bodyOf Tryz.f40), seqR (seqR (bodyOf Tryz.f40)), 4, 1, seqR (bodyOf Tryz.f74)⟩
/-- Kind: it makes two slices and a variable in no order. -/
noncomputable def A26 : Alt := ⟨26, Tryz.f26, seqL (bodyOf Tryz.f26), seqL (seqR (bodyOf Tryz.f26)), regOps (seqL (seqR (seqR (bodyOf Tryz.f26)))), seqR (seqR (seqR (bodyOf Tryz.f26)))⟩
def ords26 : List (List Nat) := [[0, 1, 3, 4, 2, 5, 6, 7, 8], [0, 1, 3, 4, 2, 6, 5, 7, 8], [0, 1, 3, 4, 2, 6, 7, 5, 8], [0, 1, 3, 4, 5, 2, 6, 7, 8], [0, 1, 3, 4, 5, 6, 2, 7, 8], [0, 1, 3, 4, 6, 2, 5, 7, 8], [0, 1, 3, 4, 6, 2, 7, 5, 8], [0, 1, 3, 4, 6, 5, 2, 7, 8]]
/-- For closed computations. -/
noncomputable def primQ [Gl] : FuncId → Option ACall := fun k => if k = 40 then some (guardA cx c0 (iter 100000) G40) else if k = 26 then some (altA cx c0 (iter 100000) A26 ords26) else prim0 k
noncomputable def prim [Gl] : FuncId → Option ACall := fun k => if k = 40 then some (guardA cx (call cx prim0) loopω G40) else if k = 26 then some (altA cx (call cx prim0) loopω A26 ords26) else prim0 k
theorem cxP (k : FuncId) : (cx.at k).P = Tryz.prog := rfl
theorem cxlit (k : FuncId) (t : TypeId) : (cx.at k).lit t = lits t := rfl
theorem cxmd (k j : FuncId) : (cx.at k).md j = md k j := rfl
theorem lits_def (t : TypeId) : lits t = ([22, 23, 32, 60, 80, 94].contains t) := rfl
theorem cxP0 : cx.P = Tryz.prog := rfl
theorem cxhard (k : FuncId) (i : Nat) : (cx.at k).hard i = hards k i := rfl
attribute [simp] cxhard hards cxP0 cxP cxlit cxmd lits_def
end Go.Proofs.YtaldobgfbkllfaaGreatDoor

/-
  BY PROGRAM (wip/vai/Gen.lean): the seat's functions.
-/
namespace Go.Proofs.YtaldobgfbkllfaaGreatDoor
open Vai
theorem cb2 : callable Tryz.prog 2 = true := by kernel_rfl
theorem ok2 : okFunc (cx.at 2) Tryz.f2 = true := by kernel_rfl
theorem nd2 : (loopIds (bodyOf Tryz.f2)).Nodup := by decide +kernel
theorem cb3 : callable Tryz.prog 3 = true := by kernel_rfl
theorem ok3 : okFunc (cx.at 3) Tryz.f3 = true := by kernel_rfl
theorem nd3 : (loopIds (bodyOf Tryz.f3)).Nodup := by decide +kernel
theorem cb4 : callable Tryz.prog 4 = true := by kernel_rfl
theorem ok4 : okFunc (cx.at 4) Tryz.f4 = true := by kernel_rfl
theorem nd4 : (loopIds (bodyOf Tryz.f4)).Nodup := by decide +kernel
theorem cb5 : callable Tryz.prog 5 = true := by kernel_rfl
theorem ok5 : okFunc (cx.at 5) Tryz.f5 = true := by kernel_rfl
theorem nd5 : (loopIds (bodyOf Tryz.f5)).Nodup := by decide +kernel
theorem cb6 : callable Tryz.prog 6 = true := by kernel_rfl
theorem ok6 : okFunc (cx.at 6) Tryz.f6 = true := by kernel_rfl
theorem nd6 : (loopIds (bodyOf Tryz.f6)).Nodup := by decide +kernel
theorem cb7 : callable Tryz.prog 7 = true := by kernel_rfl
theorem ok7 : okFunc (cx.at 7) Tryz.f7 = true := by kernel_rfl
theorem nd7 : (loopIds (bodyOf Tryz.f7)).Nodup := by decide +kernel
theorem cb8 : callable Tryz.prog 8 = true := by kernel_rfl
theorem ok8 : okFunc (cx.at 8) Tryz.f8 = true := by kernel_rfl
theorem nd8 : (loopIds (bodyOf Tryz.f8)).Nodup := by decide +kernel
theorem cb9 : callable Tryz.prog 9 = true := by kernel_rfl
theorem ok9 : okFunc (cx.at 9) Tryz.f9 = true := by kernel_rfl
theorem nd9 : (loopIds (bodyOf Tryz.f9)).Nodup := by decide +kernel
theorem cb10 : callable Tryz.prog 10 = true := by kernel_rfl
theorem ok10 : okFunc (cx.at 10) Tryz.f10 = true := by kernel_rfl
theorem nd10 : (loopIds (bodyOf Tryz.f10)).Nodup := by decide +kernel
theorem cb11 : callable Tryz.prog 11 = true := by kernel_rfl
theorem ok11 : okFunc (cx.at 11) Tryz.f11 = true := by kernel_rfl
theorem nd11 : (loopIds (bodyOf Tryz.f11)).Nodup := by decide +kernel
theorem cb12 : callable Tryz.prog 12 = true := by kernel_rfl
theorem ok12 : okFunc (cx.at 12) Tryz.f12 = true := by kernel_rfl
theorem nd12 : (loopIds (bodyOf Tryz.f12)).Nodup := by decide +kernel
theorem cb13 : callable Tryz.prog 13 = true := by kernel_rfl
theorem ok13 : okFunc (cx.at 13) Tryz.f13 = true := by kernel_rfl
theorem nd13 : (loopIds (bodyOf Tryz.f13)).Nodup := by decide +kernel
theorem cb14 : callable Tryz.prog 14 = true := by kernel_rfl
theorem ok14 : okFunc (cx.at 14) Tryz.f14 = true := by kernel_rfl
theorem nd14 : (loopIds (bodyOf Tryz.f14)).Nodup := by decide +kernel
theorem cb15 : callable Tryz.prog 15 = true := by kernel_rfl
theorem ok15 : okFunc (cx.at 15) Tryz.f15 = true := by kernel_rfl
theorem nd15 : (loopIds (bodyOf Tryz.f15)).Nodup := by decide +kernel
theorem cb16 : callable Tryz.prog 16 = true := by kernel_rfl
theorem ok16 : okFunc (cx.at 16) Tryz.f16 = true := by kernel_rfl
theorem nd16 : (loopIds (bodyOf Tryz.f16)).Nodup := by decide +kernel
theorem cb17 : callable Tryz.prog 17 = true := by kernel_rfl
theorem ok17 : okFunc (cx.at 17) Tryz.f17 = true := by kernel_rfl
theorem nd17 : (loopIds (bodyOf Tryz.f17)).Nodup := by decide +kernel
theorem cb18 : callable Tryz.prog 18 = true := by kernel_rfl
theorem ok18 : okFunc (cx.at 18) Tryz.f18 = true := by kernel_rfl
theorem nd18 : (loopIds (bodyOf Tryz.f18)).Nodup := by decide +kernel
theorem cb19 : callable Tryz.prog 19 = true := by kernel_rfl
theorem ok19 : okFunc (cx.at 19) Tryz.f19 = true := by kernel_rfl
theorem nd19 : (loopIds (bodyOf Tryz.f19)).Nodup := by decide +kernel
theorem cb20 : callable Tryz.prog 20 = true := by kernel_rfl
theorem ok20 : okFunc (cx.at 20) Tryz.f20 = true := by kernel_rfl
theorem nd20 : (loopIds (bodyOf Tryz.f20)).Nodup := by decide +kernel
theorem cb21 : callable Tryz.prog 21 = true := by kernel_rfl
theorem ok21 : okFunc (cx.at 21) Tryz.f21 = true := by kernel_rfl
theorem nd21 : (loopIds (bodyOf Tryz.f21)).Nodup := by decide +kernel
theorem cb22 : callable Tryz.prog 22 = true := by kernel_rfl
theorem ok22 : okFunc (cx.at 22) Tryz.f22 = true := by kernel_rfl
theorem nd22 : (loopIds (bodyOf Tryz.f22)).Nodup := by decide +kernel
theorem cb23 : callable Tryz.prog 23 = true := by kernel_rfl
theorem ok23 : okFunc (cx.at 23) Tryz.f23 = true := by kernel_rfl
theorem nd23 : (loopIds (bodyOf Tryz.f23)).Nodup := by decide +kernel
theorem cb24 : callable Tryz.prog 24 = true := by kernel_rfl
theorem ok24 : okFunc (cx.at 24) Tryz.f24 = true := by kernel_rfl
theorem nd24 : (loopIds (bodyOf Tryz.f24)).Nodup := by decide +kernel
theorem cb25 : callable Tryz.prog 25 = true := by kernel_rfl
theorem ok25 : okFunc (cx.at 25) Tryz.f25 = true := by kernel_rfl
theorem nd25 : (loopIds (bodyOf Tryz.f25)).Nodup := by decide +kernel
theorem cb26 : callable Tryz.prog 26 = true := by kernel_rfl
-- 26 pavane/formula.Kind: not in order: [region 3: [(1, 2), (1, 3), (4, 0), (4, 3), (4, 4)]; fits false, region 14: [(0, 1)]; fits true]
theorem cb27 : callable Tryz.prog 27 = true := by kernel_rfl
theorem ok27 : okFunc (cx.at 27) Tryz.f27 = true := by kernel_rfl
theorem nd27 : (loopIds (bodyOf Tryz.f27)).Nodup := by decide +kernel
theorem cb28 : callable Tryz.prog 28 = true := by kernel_rfl
theorem ok28 : okFunc (cx.at 28) Tryz.f28 = true := by kernel_rfl
theorem nd28 : (loopIds (bodyOf Tryz.f28)).Nodup := by decide +kernel
theorem cb29 : callable Tryz.prog 29 = true := by kernel_rfl
theorem ok29 : okFunc (cx.at 29) Tryz.f29 = true := by kernel_rfl
theorem nd29 : (loopIds (bodyOf Tryz.f29)).Nodup := by decide +kernel
theorem cb30 : callable Tryz.prog 30 = true := by kernel_rfl
theorem ok30 : okFunc (cx.at 30) Tryz.f30 = true := by kernel_rfl
theorem nd30 : (loopIds (bodyOf Tryz.f30)).Nodup := by decide +kernel
theorem cb31 : callable Tryz.prog 31 = true := by kernel_rfl
theorem ok31 : okFunc (cx.at 31) Tryz.f31 = true := by kernel_rfl
theorem nd31 : (loopIds (bodyOf Tryz.f31)).Nodup := by decide +kernel
theorem cb32 : callable Tryz.prog 32 = true := by kernel_rfl
theorem ok32 : okFunc (cx.at 32) Tryz.f32 = true := by kernel_rfl
theorem nd32 : (loopIds (bodyOf Tryz.f32)).Nodup := by decide +kernel
theorem cb33 : callable Tryz.prog 33 = true := by kernel_rfl
theorem ok33 : okFunc (cx.at 33) Tryz.f33 = true := by kernel_rfl
theorem nd33 : (loopIds (bodyOf Tryz.f33)).Nodup := by decide +kernel
theorem cb34 : callable Tryz.prog 34 = true := by kernel_rfl
theorem ok34 : okFunc (cx.at 34) Tryz.f34 = true := by kernel_rfl
theorem nd34 : (loopIds (bodyOf Tryz.f34)).Nodup := by decide +kernel
theorem cb35 : callable Tryz.prog 35 = true := by kernel_rfl
theorem ok35 : okFunc (cx.at 35) Tryz.f35 = true := by kernel_rfl
theorem nd35 : (loopIds (bodyOf Tryz.f35)).Nodup := by decide +kernel
theorem cb36 : callable Tryz.prog 36 = true := by kernel_rfl
theorem ok36 : okFunc (cx.at 36) Tryz.f36 = true := by kernel_rfl
theorem nd36 : (loopIds (bodyOf Tryz.f36)).Nodup := by decide +kernel
theorem cb37 : callable Tryz.prog 37 = true := by kernel_rfl
theorem ok37 : okFunc (cx.at 37) Tryz.f37 = true := by kernel_rfl
theorem nd37 : (loopIds (bodyOf Tryz.f37)).Nodup := by decide +kernel
theorem cb38 : callable Tryz.prog 38 = true := by kernel_rfl
theorem ok38 : okFunc (cx.at 38) Tryz.f38 = true := by kernel_rfl
theorem nd38 : (loopIds (bodyOf Tryz.f38)).Nodup := by decide +kernel
theorem cb39 : callable Tryz.prog 39 = true := by kernel_rfl
theorem ok39 : okFunc (cx.at 39) Tryz.f39 = true := by kernel_rfl
theorem nd39 : (loopIds (bodyOf Tryz.f39)).Nodup := by decide +kernel
theorem cb40 : callable Tryz.prog 40 = true := by kernel_rfl
theorem ok40 : okFunc (cx.at 40) Tryz.f40 = true := by kernel_rfl
theorem nd40 : (loopIds (bodyOf Tryz.f40)).Nodup := by decide +kernel
theorem cb41 : callable Tryz.prog 41 = true := by kernel_rfl
theorem ok41 : okFunc (cx.at 41) Tryz.f41 = true := by kernel_rfl
theorem nd41 : (loopIds (bodyOf Tryz.f41)).Nodup := by decide +kernel
theorem cb42 : callable Tryz.prog 42 = true := by kernel_rfl
theorem ok42 : okFunc (cx.at 42) Tryz.f42 = true := by kernel_rfl
theorem nd42 : (loopIds (bodyOf Tryz.f42)).Nodup := by decide +kernel
theorem cb43 : callable Tryz.prog 43 = true := by kernel_rfl
theorem ok43 : okFunc (cx.at 43) Tryz.f43 = true := by kernel_rfl
theorem nd43 : (loopIds (bodyOf Tryz.f43)).Nodup := by decide +kernel
theorem cb44 : callable Tryz.prog 44 = true := by kernel_rfl
theorem ok44 : okFunc (cx.at 44) Tryz.f44 = true := by kernel_rfl
theorem nd44 : (loopIds (bodyOf Tryz.f44)).Nodup := by decide +kernel
theorem cb45 : callable Tryz.prog 45 = true := by kernel_rfl
theorem ok45 : okFunc (cx.at 45) Tryz.f45 = true := by kernel_rfl
theorem nd45 : (loopIds (bodyOf Tryz.f45)).Nodup := by decide +kernel
theorem cb46 : callable Tryz.prog 46 = true := by kernel_rfl
theorem ok46 : okFunc (cx.at 46) Tryz.f46 = true := by kernel_rfl
theorem nd46 : (loopIds (bodyOf Tryz.f46)).Nodup := by decide +kernel
theorem cb47 : callable Tryz.prog 47 = true := by kernel_rfl
theorem ok47 : okFunc (cx.at 47) Tryz.f47 = true := by kernel_rfl
theorem nd47 : (loopIds (bodyOf Tryz.f47)).Nodup := by decide +kernel
theorem cb48 : callable Tryz.prog 48 = true := by kernel_rfl
theorem ok48 : okFunc (cx.at 48) Tryz.f48 = true := by kernel_rfl
theorem nd48 : (loopIds (bodyOf Tryz.f48)).Nodup := by decide +kernel
theorem cb49 : callable Tryz.prog 49 = true := by kernel_rfl
theorem ok49 : okFunc (cx.at 49) Tryz.f49 = true := by kernel_rfl
theorem nd49 : (loopIds (bodyOf Tryz.f49)).Nodup := by decide +kernel
theorem cb50 : callable Tryz.prog 50 = true := by kernel_rfl
theorem ok50 : okFunc (cx.at 50) Tryz.f50 = true := by kernel_rfl
theorem nd50 : (loopIds (bodyOf Tryz.f50)).Nodup := by decide +kernel
theorem cb51 : callable Tryz.prog 51 = true := by kernel_rfl
theorem ok51 : okFunc (cx.at 51) Tryz.f51 = true := by kernel_rfl
theorem nd51 : (loopIds (bodyOf Tryz.f51)).Nodup := by decide +kernel
theorem cb52 : callable Tryz.prog 52 = true := by kernel_rfl
theorem ok52 : okFunc (cx.at 52) Tryz.f52 = true := by kernel_rfl
theorem nd52 : (loopIds (bodyOf Tryz.f52)).Nodup := by decide +kernel
theorem cb53 : callable Tryz.prog 53 = true := by kernel_rfl
theorem ok53 : okFunc (cx.at 53) Tryz.f53 = true := by kernel_rfl
theorem nd53 : (loopIds (bodyOf Tryz.f53)).Nodup := by decide +kernel
theorem cb54 : callable Tryz.prog 54 = true := by kernel_rfl
theorem ok54 : okFunc (cx.at 54) Tryz.f54 = true := by kernel_rfl
theorem nd54 : (loopIds (bodyOf Tryz.f54)).Nodup := by decide +kernel
theorem cb55 : callable Tryz.prog 55 = true := by kernel_rfl
theorem ok55 : okFunc (cx.at 55) Tryz.f55 = true := by kernel_rfl
theorem nd55 : (loopIds (bodyOf Tryz.f55)).Nodup := by decide +kernel
theorem cb56 : callable Tryz.prog 56 = true := by kernel_rfl
theorem ok56 : okFunc (cx.at 56) Tryz.f56 = true := by kernel_rfl
theorem nd56 : (loopIds (bodyOf Tryz.f56)).Nodup := by decide +kernel
theorem cb57 : callable Tryz.prog 57 = true := by kernel_rfl
theorem ok57 : okFunc (cx.at 57) Tryz.f57 = true := by kernel_rfl
theorem nd57 : (loopIds (bodyOf Tryz.f57)).Nodup := by decide +kernel
theorem cb58 : callable Tryz.prog 58 = true := by kernel_rfl
theorem ok58 : okFunc (cx.at 58) Tryz.f58 = true := by kernel_rfl
theorem nd58 : (loopIds (bodyOf Tryz.f58)).Nodup := by decide +kernel
theorem cb59 : callable Tryz.prog 59 = true := by kernel_rfl
theorem ok59 : okFunc (cx.at 59) Tryz.f59 = true := by kernel_rfl
theorem nd59 : (loopIds (bodyOf Tryz.f59)).Nodup := by decide +kernel
theorem cb60 : callable Tryz.prog 60 = true := by kernel_rfl
theorem ok60 : okFunc (cx.at 60) Tryz.f60 = true := by kernel_rfl
theorem nd60 : (loopIds (bodyOf Tryz.f60)).Nodup := by decide +kernel
theorem cb61 : callable Tryz.prog 61 = true := by kernel_rfl
theorem ok61 : okFunc (cx.at 61) Tryz.f61 = true := by kernel_rfl
theorem nd61 : (loopIds (bodyOf Tryz.f61)).Nodup := by decide +kernel
theorem cb62 : callable Tryz.prog 62 = true := by kernel_rfl
theorem ok62 : okFunc (cx.at 62) Tryz.f62 = true := by kernel_rfl
theorem nd62 : (loopIds (bodyOf Tryz.f62)).Nodup := by decide +kernel
theorem cb63 : callable Tryz.prog 63 = true := by kernel_rfl
theorem ok63 : okFunc (cx.at 63) Tryz.f63 = true := by kernel_rfl
theorem nd63 : (loopIds (bodyOf Tryz.f63)).Nodup := by decide +kernel
theorem cb64 : callable Tryz.prog 64 = true := by kernel_rfl
theorem ok64 : okFunc (cx.at 64) Tryz.f64 = true := by kernel_rfl
theorem nd64 : (loopIds (bodyOf Tryz.f64)).Nodup := by decide +kernel
theorem cb65 : callable Tryz.prog 65 = true := by kernel_rfl
theorem ok65 : okFunc (cx.at 65) Tryz.f65 = true := by kernel_rfl
theorem nd65 : (loopIds (bodyOf Tryz.f65)).Nodup := by decide +kernel
theorem cb66 : callable Tryz.prog 66 = true := by kernel_rfl
theorem ok66 : okFunc (cx.at 66) Tryz.f66 = true := by kernel_rfl
theorem nd66 : (loopIds (bodyOf Tryz.f66)).Nodup := by decide +kernel
theorem cb67 : callable Tryz.prog 67 = true := by kernel_rfl
theorem ok67 : okFunc (cx.at 67) Tryz.f67 = true := by kernel_rfl
theorem nd67 : (loopIds (bodyOf Tryz.f67)).Nodup := by decide +kernel
theorem cb68 : callable Tryz.prog 68 = true := by kernel_rfl
theorem ok68 : okFunc (cx.at 68) Tryz.f68 = true := by kernel_rfl
theorem nd68 : (loopIds (bodyOf Tryz.f68)).Nodup := by decide +kernel
theorem cb69 : callable Tryz.prog 69 = true := by kernel_rfl
theorem ok69 : okFunc (cx.at 69) Tryz.f69 = true := by kernel_rfl
theorem nd69 : (loopIds (bodyOf Tryz.f69)).Nodup := by decide +kernel
theorem cb70 : callable Tryz.prog 70 = true := by kernel_rfl
theorem ok70 : okFunc (cx.at 70) Tryz.f70 = true := by kernel_rfl
theorem nd70 : (loopIds (bodyOf Tryz.f70)).Nodup := by decide +kernel
theorem cb71 : callable Tryz.prog 71 = true := by kernel_rfl
theorem ok71 : okFunc (cx.at 71) Tryz.f71 = true := by kernel_rfl
theorem nd71 : (loopIds (bodyOf Tryz.f71)).Nodup := by decide +kernel
theorem cb72 : callable Tryz.prog 72 = true := by kernel_rfl
theorem ok72 : okFunc (cx.at 72) Tryz.f72 = true := by kernel_rfl
theorem nd72 : (loopIds (bodyOf Tryz.f72)).Nodup := by decide +kernel
theorem cb73 : callable Tryz.prog 73 = true := by kernel_rfl
theorem ok73 : okFunc (cx.at 73) Tryz.f73 = true := by kernel_rfl
theorem nd73 : (loopIds (bodyOf Tryz.f73)).Nodup := by decide +kernel
theorem cb74 : callable Tryz.prog 74 = true := by kernel_rfl
theorem ok74 : okFunc (cx.at 74) Tryz.f74 = true := by kernel_rfl
theorem nd74 : (loopIds (bodyOf Tryz.f74)).Nodup := by decide +kernel
theorem cb75 : callable Tryz.prog 75 = true := by kernel_rfl
theorem ok75 : okFunc (cx.at 75) Tryz.f75 = true := by kernel_rfl
theorem nd75 : (loopIds (bodyOf Tryz.f75)).Nodup := by decide +kernel
theorem cb76 : callable Tryz.prog 76 = true := by kernel_rfl
theorem ok76 : okFunc (cx.at 76) Tryz.f76 = true := by kernel_rfl
theorem nd76 : (loopIds (bodyOf Tryz.f76)).Nodup := by decide +kernel
theorem cb77 : callable Tryz.prog 77 = true := by kernel_rfl
theorem ok77 : okFunc (cx.at 77) Tryz.f77 = true := by kernel_rfl
theorem nd77 : (loopIds (bodyOf Tryz.f77)).Nodup := by decide +kernel
theorem cb78 : callable Tryz.prog 78 = true := by kernel_rfl
theorem ok78 : okFunc (cx.at 78) Tryz.f78 = true := by kernel_rfl
theorem nd78 : (loopIds (bodyOf Tryz.f78)).Nodup := by decide +kernel
theorem cb79 : callable Tryz.prog 79 = true := by kernel_rfl
theorem ok79 : okFunc (cx.at 79) Tryz.f79 = true := by kernel_rfl
theorem nd79 : (loopIds (bodyOf Tryz.f79)).Nodup := by decide +kernel
theorem cb80 : callable Tryz.prog 80 = true := by kernel_rfl
theorem ok80 : okFunc (cx.at 80) Tryz.f80 = true := by kernel_rfl
theorem nd80 : (loopIds (bodyOf Tryz.f80)).Nodup := by decide +kernel
theorem cb81 : callable Tryz.prog 81 = true := by kernel_rfl
theorem ok81 : okFunc (cx.at 81) Tryz.f81 = true := by kernel_rfl
theorem nd81 : (loopIds (bodyOf Tryz.f81)).Nodup := by decide +kernel
theorem cb82 : callable Tryz.prog 82 = true := by kernel_rfl
theorem ok82 : okFunc (cx.at 82) Tryz.f82 = true := by kernel_rfl
theorem nd82 : (loopIds (bodyOf Tryz.f82)).Nodup := by decide +kernel
theorem cb83 : callable Tryz.prog 83 = true := by kernel_rfl
theorem ok83 : okFunc (cx.at 83) Tryz.f83 = true := by kernel_rfl
theorem nd83 : (loopIds (bodyOf Tryz.f83)).Nodup := by decide +kernel
theorem cb84 : callable Tryz.prog 84 = true := by kernel_rfl
theorem ok84 : okFunc (cx.at 84) Tryz.f84 = true := by kernel_rfl
theorem nd84 : (loopIds (bodyOf Tryz.f84)).Nodup := by decide +kernel
theorem cb85 : callable Tryz.prog 85 = true := by kernel_rfl
theorem ok85 : okFunc (cx.at 85) Tryz.f85 = true := by kernel_rfl
theorem nd85 : (loopIds (bodyOf Tryz.f85)).Nodup := by decide +kernel
theorem cb86 : callable Tryz.prog 86 = true := by kernel_rfl
theorem ok86 : okFunc (cx.at 86) Tryz.f86 = true := by kernel_rfl
theorem nd86 : (loopIds (bodyOf Tryz.f86)).Nodup := by decide +kernel
theorem cb87 : callable Tryz.prog 87 = true := by kernel_rfl
theorem ok87 : okFunc (cx.at 87) Tryz.f87 = true := by kernel_rfl
theorem nd87 : (loopIds (bodyOf Tryz.f87)).Nodup := by decide +kernel
theorem cb88 : callable Tryz.prog 88 = true := by kernel_rfl
theorem ok88 : okFunc (cx.at 88) Tryz.f88 = true := by kernel_rfl
theorem nd88 : (loopIds (bodyOf Tryz.f88)).Nodup := by decide +kernel
theorem cb89 : callable Tryz.prog 89 = true := by kernel_rfl
theorem ok89 : okFunc (cx.at 89) Tryz.f89 = true := by kernel_rfl
theorem nd89 : (loopIds (bodyOf Tryz.f89)).Nodup := by decide +kernel
theorem cb90 : callable Tryz.prog 90 = true := by kernel_rfl
theorem ok90 : okFunc (cx.at 90) Tryz.f90 = true := by kernel_rfl
theorem nd90 : (loopIds (bodyOf Tryz.f90)).Nodup := by decide +kernel
theorem cb91 : callable Tryz.prog 91 = true := by kernel_rfl
theorem ok91 : okFunc (cx.at 91) Tryz.f91 = true := by kernel_rfl
theorem nd91 : (loopIds (bodyOf Tryz.f91)).Nodup := by decide +kernel
theorem cb92 : callable Tryz.prog 92 = true := by kernel_rfl
theorem ok92 : okFunc (cx.at 92) Tryz.f92 = true := by kernel_rfl
theorem nd92 : (loopIds (bodyOf Tryz.f92)).Nodup := by decide +kernel
theorem cb93 : callable Tryz.prog 93 = true := by kernel_rfl
theorem ok93 : okFunc (cx.at 93) Tryz.f93 = true := by kernel_rfl
theorem nd93 : (loopIds (bodyOf Tryz.f93)).Nodup := by decide +kernel
theorem cb94 : callable Tryz.prog 94 = true := by kernel_rfl
theorem ok94 : okFunc (cx.at 94) Tryz.f94 = true := by kernel_rfl
theorem nd94 : (loopIds (bodyOf Tryz.f94)).Nodup := by decide +kernel
theorem cb95 : callable Tryz.prog 95 = true := by kernel_rfl
theorem ok95 : okFunc (cx.at 95) Tryz.f95 = true := by kernel_rfl
theorem nd95 : (loopIds (bodyOf Tryz.f95)).Nodup := by decide +kernel
theorem cb96 : callable Tryz.prog 96 = true := by kernel_rfl
theorem ok96 : okFunc (cx.at 96) Tryz.f96 = true := by kernel_rfl
theorem nd96 : (loopIds (bodyOf Tryz.f96)).Nodup := by decide +kernel
theorem cb97 : callable Tryz.prog 97 = true := by kernel_rfl
theorem ok97 : okFunc (cx.at 97) Tryz.f97 = true := by kernel_rfl
theorem nd97 : (loopIds (bodyOf Tryz.f97)).Nodup := by decide +kernel
theorem cb98 : callable Tryz.prog 98 = true := by kernel_rfl
theorem ok98 : okFunc (cx.at 98) Tryz.f98 = true := by kernel_rfl
theorem nd98 : (loopIds (bodyOf Tryz.f98)).Nodup := by decide +kernel
theorem cb99 : callable Tryz.prog 99 = true := by kernel_rfl
theorem ok99 : okFunc (cx.at 99) Tryz.f99 = true := by kernel_rfl
theorem nd99 : (loopIds (bodyOf Tryz.f99)).Nodup := by decide +kernel
theorem cb100 : callable Tryz.prog 100 = true := by kernel_rfl
theorem ok100 : okFunc (cx.at 100) Tryz.f100 = true := by kernel_rfl
theorem nd100 : (loopIds (bodyOf Tryz.f100)).Nodup := by decide +kernel
theorem cb101 : callable Tryz.prog 101 = true := by kernel_rfl
theorem ok101 : okFunc (cx.at 101) Tryz.f101 = true := by kernel_rfl
theorem nd101 : (loopIds (bodyOf Tryz.f101)).Nodup := by decide +kernel
theorem cb102 : callable Tryz.prog 102 = true := by kernel_rfl
theorem ok102 : okFunc (cx.at 102) Tryz.f102 = true := by kernel_rfl
theorem nd102 : (loopIds (bodyOf Tryz.f102)).Nodup := by decide +kernel
theorem cb103 : callable Tryz.prog 103 = true := by kernel_rfl
theorem ok103 : okFunc (cx.at 103) Tryz.f103 = true := by kernel_rfl
theorem nd103 : (loopIds (bodyOf Tryz.f103)).Nodup := by decide +kernel
theorem cb104 : callable Tryz.prog 104 = true := by kernel_rfl
theorem ok104 : okFunc (cx.at 104) Tryz.f104 = true := by kernel_rfl
theorem nd104 : (loopIds (bodyOf Tryz.f104)).Nodup := by decide +kernel
theorem cb105 : callable Tryz.prog 105 = true := by kernel_rfl
theorem ok105 : okFunc (cx.at 105) Tryz.f105 = true := by kernel_rfl
theorem nd105 : (loopIds (bodyOf Tryz.f105)).Nodup := by decide +kernel
theorem cb106 : callable Tryz.prog 106 = true := by kernel_rfl
theorem ok106 : okFunc (cx.at 106) Tryz.f106 = true := by kernel_rfl
theorem nd106 : (loopIds (bodyOf Tryz.f106)).Nodup := by decide +kernel
theorem cb107 : callable Tryz.prog 107 = true := by kernel_rfl
theorem ok107 : okFunc (cx.at 107) Tryz.f107 = true := by kernel_rfl
theorem nd107 : (loopIds (bodyOf Tryz.f107)).Nodup := by decide +kernel
theorem cb108 : callable Tryz.prog 108 = true := by kernel_rfl
theorem ok108 : okFunc (cx.at 108) Tryz.f108 = true := by kernel_rfl
theorem nd108 : (loopIds (bodyOf Tryz.f108)).Nodup := by decide +kernel
theorem cb109 : callable Tryz.prog 109 = true := by kernel_rfl
theorem ok109 : okFunc (cx.at 109) Tryz.f109 = true := by kernel_rfl
theorem nd109 : (loopIds (bodyOf Tryz.f109)).Nodup := by decide +kernel
theorem cb110 : callable Tryz.prog 110 = true := by kernel_rfl
theorem ok110 : okFunc (cx.at 110) Tryz.f110 = true := by kernel_rfl
theorem nd110 : (loopIds (bodyOf Tryz.f110)).Nodup := by decide +kernel
theorem cb111 : callable Tryz.prog 111 = true := by kernel_rfl
theorem ok111 : okFunc (cx.at 111) Tryz.f111 = true := by kernel_rfl
theorem nd111 : (loopIds (bodyOf Tryz.f111)).Nodup := by decide +kernel
theorem cb112 : callable Tryz.prog 112 = true := by kernel_rfl
theorem ok112 : okFunc (cx.at 112) Tryz.f112 = true := by kernel_rfl
theorem nd112 : (loopIds (bodyOf Tryz.f112)).Nodup := by decide +kernel
theorem cb113 : callable Tryz.prog 113 = true := by kernel_rfl
theorem ok113 : okFunc (cx.at 113) Tryz.f113 = true := by kernel_rfl
theorem nd113 : (loopIds (bodyOf Tryz.f113)).Nodup := by decide +kernel
theorem cb114 : callable Tryz.prog 114 = true := by kernel_rfl
theorem ok114 : okFunc (cx.at 114) Tryz.f114 = true := by kernel_rfl
theorem nd114 : (loopIds (bodyOf Tryz.f114)).Nodup := by decide +kernel
theorem cb115 : callable Tryz.prog 115 = true := by kernel_rfl
theorem ok115 : okFunc (cx.at 115) Tryz.f115 = true := by kernel_rfl
theorem nd115 : (loopIds (bodyOf Tryz.f115)).Nodup := by decide +kernel
theorem cb116 : callable Tryz.prog 116 = true := by kernel_rfl
theorem ok116 : okFunc (cx.at 116) Tryz.f116 = true := by kernel_rfl
theorem nd116 : (loopIds (bodyOf Tryz.f116)).Nodup := by decide +kernel
theorem cb117 : callable Tryz.prog 117 = true := by kernel_rfl
theorem ok117 : okFunc (cx.at 117) Tryz.f117 = true := by kernel_rfl
theorem nd117 : (loopIds (bodyOf Tryz.f117)).Nodup := by decide +kernel
theorem cb118 : callable Tryz.prog 118 = true := by kernel_rfl
theorem ok118 : okFunc (cx.at 118) Tryz.f118 = true := by kernel_rfl
theorem nd118 : (loopIds (bodyOf Tryz.f118)).Nodup := by decide +kernel
theorem cb119 : callable Tryz.prog 119 = true := by kernel_rfl
theorem ok119 : okFunc (cx.at 119) Tryz.f119 = true := by kernel_rfl
theorem nd119 : (loopIds (bodyOf Tryz.f119)).Nodup := by decide +kernel
theorem cb120 : callable Tryz.prog 120 = true := by kernel_rfl
theorem ok120 : okFunc (cx.at 120) Tryz.f120 = true := by kernel_rfl
theorem nd120 : (loopIds (bodyOf Tryz.f120)).Nodup := by decide +kernel
theorem cb121 : callable Tryz.prog 121 = true := by kernel_rfl
theorem ok121 : okFunc (cx.at 121) Tryz.f121 = true := by kernel_rfl
theorem nd121 : (loopIds (bodyOf Tryz.f121)).Nodup := by decide +kernel
theorem cb122 : callable Tryz.prog 122 = true := by kernel_rfl
theorem ok122 : okFunc (cx.at 122) Tryz.f122 = true := by kernel_rfl
theorem nd122 : (loopIds (bodyOf Tryz.f122)).Nodup := by decide +kernel
theorem cb123 : callable Tryz.prog 123 = true := by kernel_rfl
theorem ok123 : okFunc (cx.at 123) Tryz.f123 = true := by kernel_rfl
theorem nd123 : (loopIds (bodyOf Tryz.f123)).Nodup := by decide +kernel
theorem cb124 : callable Tryz.prog 124 = true := by kernel_rfl
theorem ok124 : okFunc (cx.at 124) Tryz.f124 = true := by kernel_rfl
theorem nd124 : (loopIds (bodyOf Tryz.f124)).Nodup := by decide +kernel
theorem cb125 : callable Tryz.prog 125 = true := by kernel_rfl
theorem ok125 : okFunc (cx.at 125) Tryz.f125 = true := by kernel_rfl
theorem nd125 : (loopIds (bodyOf Tryz.f125)).Nodup := by decide +kernel
theorem cb126 : callable Tryz.prog 126 = true := by kernel_rfl
theorem ok126 : okFunc (cx.at 126) Tryz.f126 = true := by kernel_rfl
theorem nd126 : (loopIds (bodyOf Tryz.f126)).Nodup := by decide +kernel
theorem cb127 : callable Tryz.prog 127 = true := by kernel_rfl
theorem ok127 : okFunc (cx.at 127) Tryz.f127 = true := by kernel_rfl
theorem nd127 : (loopIds (bodyOf Tryz.f127)).Nodup := by decide +kernel
theorem cb128 : callable Tryz.prog 128 = true := by kernel_rfl
theorem ok128 : okFunc (cx.at 128) Tryz.f128 = true := by kernel_rfl
theorem nd128 : (loopIds (bodyOf Tryz.f128)).Nodup := by decide +kernel
theorem cb129 : callable Tryz.prog 129 = true := by kernel_rfl
theorem ok129 : okFunc (cx.at 129) Tryz.f129 = true := by kernel_rfl
theorem nd129 : (loopIds (bodyOf Tryz.f129)).Nodup := by decide +kernel
theorem cb130 : callable Tryz.prog 130 = true := by kernel_rfl
theorem ok130 : okFunc (cx.at 130) Tryz.f130 = true := by kernel_rfl
theorem nd130 : (loopIds (bodyOf Tryz.f130)).Nodup := by decide +kernel
theorem cb131 : callable Tryz.prog 131 = true := by kernel_rfl
theorem ok131 : okFunc (cx.at 131) Tryz.f131 = true := by kernel_rfl
theorem nd131 : (loopIds (bodyOf Tryz.f131)).Nodup := by decide +kernel
theorem cb132 : callable Tryz.prog 132 = true := by kernel_rfl
theorem ok132 : okFunc (cx.at 132) Tryz.f132 = true := by kernel_rfl
theorem nd132 : (loopIds (bodyOf Tryz.f132)).Nodup := by decide +kernel
theorem cb133 : callable Tryz.prog 133 = true := by kernel_rfl
theorem ok133 : okFunc (cx.at 133) Tryz.f133 = true := by kernel_rfl
theorem nd133 : (loopIds (bodyOf Tryz.f133)).Nodup := by decide +kernel
theorem cb134 : callable Tryz.prog 134 = true := by kernel_rfl
theorem ok134 : okFunc (cx.at 134) Tryz.f134 = true := by kernel_rfl
theorem nd134 : (loopIds (bodyOf Tryz.f134)).Nodup := by decide +kernel
theorem cb135 : callable Tryz.prog 135 = true := by kernel_rfl
theorem ok135 : okFunc (cx.at 135) Tryz.f135 = true := by kernel_rfl
theorem nd135 : (loopIds (bodyOf Tryz.f135)).Nodup := by decide +kernel
theorem cb136 : callable Tryz.prog 136 = true := by kernel_rfl
theorem ok136 : okFunc (cx.at 136) Tryz.f136 = true := by kernel_rfl
theorem nd136 : (loopIds (bodyOf Tryz.f136)).Nodup := by decide +kernel
theorem cb137 : callable Tryz.prog 137 = true := by kernel_rfl
theorem ok137 : okFunc (cx.at 137) Tryz.f137 = true := by kernel_rfl
theorem nd137 : (loopIds (bodyOf Tryz.f137)).Nodup := by decide +kernel
theorem cb138 : callable Tryz.prog 138 = true := by kernel_rfl
theorem ok138 : okFunc (cx.at 138) Tryz.f138 = true := by kernel_rfl
theorem nd138 : (loopIds (bodyOf Tryz.f138)).Nodup := by decide +kernel
theorem cb139 : callable Tryz.prog 139 = true := by kernel_rfl
theorem ok139 : okFunc (cx.at 139) Tryz.f139 = true := by kernel_rfl
theorem nd139 : (loopIds (bodyOf Tryz.f139)).Nodup := by decide +kernel
theorem cb141 : callable Tryz.prog 141 = true := by kernel_rfl
theorem ok141 : okFunc (cx.at 141) Tryz.f141 = true := by kernel_rfl
theorem nd141 : (loopIds (bodyOf Tryz.f141)).Nodup := by decide +kernel
theorem cb142 : callable Tryz.prog 142 = true := by kernel_rfl
theorem ok142 : okFunc (cx.at 142) Tryz.f142 = true := by kernel_rfl
theorem nd142 : (loopIds (bodyOf Tryz.f142)).Nodup := by decide +kernel
theorem cb143 : callable Tryz.prog 143 = true := by kernel_rfl
theorem ok143 : okFunc (cx.at 143) Tryz.f143 = true := by kernel_rfl
theorem nd143 : (loopIds (bodyOf Tryz.f143)).Nodup := by decide +kernel
theorem cb144 : callable Tryz.prog 144 = true := by kernel_rfl
theorem ok144 : okFunc (cx.at 144) Tryz.f144 = true := by kernel_rfl
theorem nd144 : (loopIds (bodyOf Tryz.f144)).Nodup := by decide +kernel
theorem cb145 : callable Tryz.prog 145 = true := by kernel_rfl
theorem ok145 : okFunc (cx.at 145) Tryz.f145 = true := by kernel_rfl
theorem nd145 : (loopIds (bodyOf Tryz.f145)).Nodup := by decide +kernel
theorem cb146 : callable Tryz.prog 146 = true := by kernel_rfl
theorem ok146 : okFunc (cx.at 146) Tryz.f146 = true := by kernel_rfl
theorem nd146 : (loopIds (bodyOf Tryz.f146)).Nodup := by decide +kernel
theorem cb147 : callable Tryz.prog 147 = true := by kernel_rfl
theorem ok147 : okFunc (cx.at 147) Tryz.f147 = true := by kernel_rfl
theorem nd147 : (loopIds (bodyOf Tryz.f147)).Nodup := by decide +kernel
theorem cb148 : callable Tryz.prog 148 = true := by kernel_rfl
theorem ok148 : okFunc (cx.at 148) Tryz.f148 = true := by kernel_rfl
theorem nd148 : (loopIds (bodyOf Tryz.f148)).Nodup := by decide +kernel
theorem cb149 : callable Tryz.prog 149 = true := by kernel_rfl
theorem ok149 : okFunc (cx.at 149) Tryz.f149 = true := by kernel_rfl
theorem nd149 : (loopIds (bodyOf Tryz.f149)).Nodup := by decide +kernel
theorem cb150 : callable Tryz.prog 150 = true := by kernel_rfl
theorem ok150 : okFunc (cx.at 150) Tryz.f150 = true := by kernel_rfl
theorem nd150 : (loopIds (bodyOf Tryz.f150)).Nodup := by decide +kernel
theorem cb151 : callable Tryz.prog 151 = true := by kernel_rfl
theorem ok151 : okFunc (cx.at 151) Tryz.f151 = true := by kernel_rfl
theorem nd151 : (loopIds (bodyOf Tryz.f151)).Nodup := by decide +kernel
theorem cb152 : callable Tryz.prog 152 = true := by kernel_rfl
theorem ok152 : okFunc (cx.at 152) Tryz.f152 = true := by kernel_rfl
theorem nd152 : (loopIds (bodyOf Tryz.f152)).Nodup := by decide +kernel
theorem cb153 : callable Tryz.prog 153 = true := by kernel_rfl
theorem ok153 : okFunc (cx.at 153) Tryz.f153 = true := by kernel_rfl
theorem nd153 : (loopIds (bodyOf Tryz.f153)).Nodup := by decide +kernel
theorem cb154 : callable Tryz.prog 154 = true := by kernel_rfl
theorem ok154 : okFunc (cx.at 154) Tryz.f154 = true := by kernel_rfl
theorem nd154 : (loopIds (bodyOf Tryz.f154)).Nodup := by decide +kernel
theorem cb155 : callable Tryz.prog 155 = true := by kernel_rfl
theorem ok155 : okFunc (cx.at 155) Tryz.f155 = true := by kernel_rfl
theorem nd155 : (loopIds (bodyOf Tryz.f155)).Nodup := by decide +kernel
theorem cb156 : callable Tryz.prog 156 = true := by kernel_rfl
theorem ok156 : okFunc (cx.at 156) Tryz.f156 = true := by kernel_rfl
theorem nd156 : (loopIds (bodyOf Tryz.f156)).Nodup := by decide +kernel
theorem cb157 : callable Tryz.prog 157 = true := by kernel_rfl
theorem ok157 : okFunc (cx.at 157) Tryz.f157 = true := by kernel_rfl
theorem nd157 : (loopIds (bodyOf Tryz.f157)).Nodup := by decide +kernel
theorem cb158 : callable Tryz.prog 158 = true := by kernel_rfl
theorem ok158 : okFunc (cx.at 158) Tryz.f158 = true := by kernel_rfl
theorem nd158 : (loopIds (bodyOf Tryz.f158)).Nodup := by decide +kernel
theorem cb159 : callable Tryz.prog 159 = true := by kernel_rfl
theorem ok159 : okFunc (cx.at 159) Tryz.f159 = true := by kernel_rfl
theorem nd159 : (loopIds (bodyOf Tryz.f159)).Nodup := by decide +kernel
theorem cb160 : callable Tryz.prog 160 = true := by kernel_rfl
theorem ok160 : okFunc (cx.at 160) Tryz.f160 = true := by kernel_rfl
theorem nd160 : (loopIds (bodyOf Tryz.f160)).Nodup := by decide +kernel
theorem cb161 : callable Tryz.prog 161 = true := by kernel_rfl
theorem ok161 : okFunc (cx.at 161) Tryz.f161 = true := by kernel_rfl
theorem nd161 : (loopIds (bodyOf Tryz.f161)).Nodup := by decide +kernel
theorem cb162 : callable Tryz.prog 162 = true := by kernel_rfl
theorem ok162 : okFunc (cx.at 162) Tryz.f162 = true := by kernel_rfl
theorem nd162 : (loopIds (bodyOf Tryz.f162)).Nodup := by decide +kernel
theorem cb163 : callable Tryz.prog 163 = true := by kernel_rfl
theorem ok163 : okFunc (cx.at 163) Tryz.f163 = true := by kernel_rfl
theorem nd163 : (loopIds (bodyOf Tryz.f163)).Nodup := by decide +kernel
theorem cb165 : callable Tryz.prog 165 = true := by kernel_rfl
theorem ok165 : okFunc (cx.at 165) Tryz.f165 = true := by kernel_rfl
theorem nd165 : (loopIds (bodyOf Tryz.f165)).Nodup := by decide +kernel
theorem cb166 : callable Tryz.prog 166 = true := by kernel_rfl
theorem ok166 : okFunc (cx.at 166) Tryz.f166 = true := by kernel_rfl
theorem nd166 : (loopIds (bodyOf Tryz.f166)).Nodup := by decide +kernel
theorem cb167 : callable Tryz.prog 167 = true := by kernel_rfl
theorem ok167 : okFunc (cx.at 167) Tryz.f167 = true := by kernel_rfl
theorem nd167 : (loopIds (bodyOf Tryz.f167)).Nodup := by decide +kernel
theorem cb168 : callable Tryz.prog 168 = true := by kernel_rfl
theorem ok168 : okFunc (cx.at 168) Tryz.f168 = true := by kernel_rfl
theorem nd168 : (loopIds (bodyOf Tryz.f168)).Nodup := by decide +kernel
theorem cb169 : callable Tryz.prog 169 = true := by kernel_rfl
theorem ok169 : okFunc (cx.at 169) Tryz.f169 = true := by kernel_rfl
theorem nd169 : (loopIds (bodyOf Tryz.f169)).Nodup := by decide +kernel
theorem cb170 : callable Tryz.prog 170 = true := by kernel_rfl
theorem ok170 : okFunc (cx.at 170) Tryz.f170 = true := by kernel_rfl
theorem nd170 : (loopIds (bodyOf Tryz.f170)).Nodup := by decide +kernel
theorem cb171 : callable Tryz.prog 171 = true := by kernel_rfl
theorem ok171 : okFunc (cx.at 171) Tryz.f171 = true := by kernel_rfl
theorem nd171 : (loopIds (bodyOf Tryz.f171)).Nodup := by decide +kernel
theorem cb172 : callable Tryz.prog 172 = true := by kernel_rfl
theorem ok172 : okFunc (cx.at 172) Tryz.f172 = true := by kernel_rfl
theorem nd172 : (loopIds (bodyOf Tryz.f172)).Nodup := by decide +kernel
theorem cb173 : callable Tryz.prog 173 = true := by kernel_rfl
theorem ok173 : okFunc (cx.at 173) Tryz.f173 = true := by kernel_rfl
theorem nd173 : (loopIds (bodyOf Tryz.f173)).Nodup := by decide +kernel
theorem cb174 : callable Tryz.prog 174 = true := by kernel_rfl
theorem ok174 : okFunc (cx.at 174) Tryz.f174 = true := by kernel_rfl
theorem nd174 : (loopIds (bodyOf Tryz.f174)).Nodup := by decide +kernel
theorem cb175 : callable Tryz.prog 175 = true := by kernel_rfl
theorem ok175 : okFunc (cx.at 175) Tryz.f175 = true := by kernel_rfl
theorem nd175 : (loopIds (bodyOf Tryz.f175)).Nodup := by decide +kernel
theorem cb176 : callable Tryz.prog 176 = true := by kernel_rfl
-- 176 internal/strconv.formatBase10: not in order: [region 7: [(5, 1)]; fits true, region 8: [(5, 1)]; fits true, region 9: [(5, 1)]; fits true, region 10: [(5, 1)]; fits true, region 17: [(5, 1)]; fits true, region 18: [(5, 1)]; fits true, region 23: [(5, 1)]; fits true]
theorem cb177 : callable Tryz.prog 177 = true := by kernel_rfl
theorem ok177 : okFunc (cx.at 177) Tryz.f177 = true := by kernel_rfl
theorem nd177 : (loopIds (bodyOf Tryz.f177)).Nodup := by decide +kernel
theorem cb178 : callable Tryz.prog 178 = true := by kernel_rfl
theorem ok178 : okFunc (cx.at 178) Tryz.f178 = true := by kernel_rfl
theorem nd178 : (loopIds (bodyOf Tryz.f178)).Nodup := by decide +kernel
theorem cb179 : callable Tryz.prog 179 = true := by kernel_rfl
theorem ok179 : okFunc (cx.at 179) Tryz.f179 = true := by kernel_rfl
theorem nd179 : (loopIds (bodyOf Tryz.f179)).Nodup := by decide +kernel
theorem cb180 : callable Tryz.prog 180 = true := by kernel_rfl
theorem ok180 : okFunc (cx.at 180) Tryz.f180 = true := by kernel_rfl
theorem nd180 : (loopIds (bodyOf Tryz.f180)).Nodup := by decide +kernel
theorem cb181 : callable Tryz.prog 181 = true := by kernel_rfl
theorem ok181 : okFunc (cx.at 181) Tryz.f181 = true := by kernel_rfl
theorem nd181 : (loopIds (bodyOf Tryz.f181)).Nodup := by decide +kernel
theorem cb182 : callable Tryz.prog 182 = true := by kernel_rfl
theorem ok182 : okFunc (cx.at 182) Tryz.f182 = true := by kernel_rfl
theorem nd182 : (loopIds (bodyOf Tryz.f182)).Nodup := by decide +kernel
theorem cb183 : callable Tryz.prog 183 = true := by kernel_rfl
theorem ok183 : okFunc (cx.at 183) Tryz.f183 = true := by kernel_rfl
theorem nd183 : (loopIds (bodyOf Tryz.f183)).Nodup := by decide +kernel
theorem cb184 : callable Tryz.prog 184 = true := by kernel_rfl
theorem ok184 : okFunc (cx.at 184) Tryz.f184 = true := by kernel_rfl
theorem nd184 : (loopIds (bodyOf Tryz.f184)).Nodup := by decide +kernel
theorem cb185 : callable Tryz.prog 185 = true := by kernel_rfl
theorem ok185 : okFunc (cx.at 185) Tryz.f185 = true := by kernel_rfl
theorem nd185 : (loopIds (bodyOf Tryz.f185)).Nodup := by decide +kernel
theorem cb186 : callable Tryz.prog 186 = true := by kernel_rfl
theorem ok186 : okFunc (cx.at 186) Tryz.f186 = true := by kernel_rfl
theorem nd186 : (loopIds (bodyOf Tryz.f186)).Nodup := by decide +kernel
theorem cb187 : callable Tryz.prog 187 = true := by kernel_rfl
theorem ok187 : okFunc (cx.at 187) Tryz.f187 = true := by kernel_rfl
theorem nd187 : (loopIds (bodyOf Tryz.f187)).Nodup := by decide +kernel
theorem cb188 : callable Tryz.prog 188 = true := by kernel_rfl
theorem ok188 : okFunc (cx.at 188) Tryz.f188 = true := by kernel_rfl
theorem nd188 : (loopIds (bodyOf Tryz.f188)).Nodup := by decide +kernel
theorem cb189 : callable Tryz.prog 189 = true := by kernel_rfl
theorem ok189 : okFunc (cx.at 189) Tryz.f189 = true := by kernel_rfl
theorem nd189 : (loopIds (bodyOf Tryz.f189)).Nodup := by decide +kernel
theorem cb190 : callable Tryz.prog 190 = true := by kernel_rfl
theorem ok190 : okFunc (cx.at 190) Tryz.f190 = true := by kernel_rfl
theorem nd190 : (loopIds (bodyOf Tryz.f190)).Nodup := by decide +kernel
theorem cb191 : callable Tryz.prog 191 = true := by kernel_rfl
theorem ok191 : okFunc (cx.at 191) Tryz.f191 = true := by kernel_rfl
theorem nd191 : (loopIds (bodyOf Tryz.f191)).Nodup := by decide +kernel
theorem cb192 : callable Tryz.prog 192 = true := by kernel_rfl
theorem ok192 : okFunc (cx.at 192) Tryz.f192 = true := by kernel_rfl
theorem nd192 : (loopIds (bodyOf Tryz.f192)).Nodup := by decide +kernel
theorem cb193 : callable Tryz.prog 193 = true := by kernel_rfl
theorem ok193 : okFunc (cx.at 193) Tryz.f193 = true := by kernel_rfl
theorem nd193 : (loopIds (bodyOf Tryz.f193)).Nodup := by decide +kernel
theorem cb195 : callable Tryz.prog 195 = true := by kernel_rfl
theorem ok195 : okFunc (cx.at 195) Tryz.f195 = true := by kernel_rfl
theorem nd195 : (loopIds (bodyOf Tryz.f195)).Nodup := by decide +kernel
theorem cb196 : callable Tryz.prog 196 = true := by kernel_rfl
theorem ok196 : okFunc (cx.at 196) Tryz.f196 = true := by kernel_rfl
theorem nd196 : (loopIds (bodyOf Tryz.f196)).Nodup := by decide +kernel
theorem cb197 : callable Tryz.prog 197 = true := by kernel_rfl
theorem ok197 : okFunc (cx.at 197) Tryz.f197 = true := by kernel_rfl
theorem nd197 : (loopIds (bodyOf Tryz.f197)).Nodup := by decide +kernel
theorem cb198 : callable Tryz.prog 198 = true := by kernel_rfl
theorem ok198 : okFunc (cx.at 198) Tryz.f198 = true := by kernel_rfl
theorem nd198 : (loopIds (bodyOf Tryz.f198)).Nodup := by decide +kernel
theorem cb199 : callable Tryz.prog 199 = true := by kernel_rfl
theorem ok199 : okFunc (cx.at 199) Tryz.f199 = true := by kernel_rfl
theorem nd199 : (loopIds (bodyOf Tryz.f199)).Nodup := by decide +kernel
theorem cb200 : callable Tryz.prog 200 = true := by kernel_rfl
theorem ok200 : okFunc (cx.at 200) Tryz.f200 = true := by kernel_rfl
theorem nd200 : (loopIds (bodyOf Tryz.f200)).Nodup := by decide +kernel
theorem cb201 : callable Tryz.prog 201 = true := by kernel_rfl
theorem ok201 : okFunc (cx.at 201) Tryz.f201 = true := by kernel_rfl
theorem nd201 : (loopIds (bodyOf Tryz.f201)).Nodup := by decide +kernel
theorem cb202 : callable Tryz.prog 202 = true := by kernel_rfl
theorem ok202 : okFunc (cx.at 202) Tryz.f202 = true := by kernel_rfl
theorem nd202 : (loopIds (bodyOf Tryz.f202)).Nodup := by decide +kernel
theorem cb203 : callable Tryz.prog 203 = true := by kernel_rfl
theorem ok203 : okFunc (cx.at 203) Tryz.f203 = true := by kernel_rfl
theorem nd203 : (loopIds (bodyOf Tryz.f203)).Nodup := by decide +kernel
theorem cb204 : callable Tryz.prog 204 = true := by kernel_rfl
theorem ok204 : okFunc (cx.at 204) Tryz.f204 = true := by kernel_rfl
theorem nd204 : (loopIds (bodyOf Tryz.f204)).Nodup := by decide +kernel
theorem cb205 : callable Tryz.prog 205 = true := by kernel_rfl
theorem ok205 : okFunc (cx.at 205) Tryz.f205 = true := by kernel_rfl
theorem nd205 : (loopIds (bodyOf Tryz.f205)).Nodup := by decide +kernel
theorem cb206 : callable Tryz.prog 206 = true := by kernel_rfl
theorem ok206 : okFunc (cx.at 206) Tryz.f206 = true := by kernel_rfl
theorem nd206 : (loopIds (bodyOf Tryz.f206)).Nodup := by decide +kernel
theorem cb207 : callable Tryz.prog 207 = true := by kernel_rfl
theorem ok207 : okFunc (cx.at 207) Tryz.f207 = true := by kernel_rfl
theorem nd207 : (loopIds (bodyOf Tryz.f207)).Nodup := by decide +kernel
theorem cb208 : callable Tryz.prog 208 = true := by kernel_rfl
theorem ok208 : okFunc (cx.at 208) Tryz.f208 = true := by kernel_rfl
theorem nd208 : (loopIds (bodyOf Tryz.f208)).Nodup := by decide +kernel
theorem cb209 : callable Tryz.prog 209 = true := by kernel_rfl
theorem ok209 : okFunc (cx.at 209) Tryz.f209 = true := by kernel_rfl
theorem nd209 : (loopIds (bodyOf Tryz.f209)).Nodup := by decide +kernel
theorem cb211 : callable Tryz.prog 211 = true := by kernel_rfl
theorem ok211 : okFunc (cx.at 211) Tryz.f211 = true := by kernel_rfl
theorem nd211 : (loopIds (bodyOf Tryz.f211)).Nodup := by decide +kernel
theorem cb212 : callable Tryz.prog 212 = true := by kernel_rfl
theorem ok212 : okFunc (cx.at 212) Tryz.f212 = true := by kernel_rfl
theorem nd212 : (loopIds (bodyOf Tryz.f212)).Nodup := by decide +kernel
theorem cb213 : callable Tryz.prog 213 = true := by kernel_rfl
theorem ok213 : okFunc (cx.at 213) Tryz.f213 = true := by kernel_rfl
theorem nd213 : (loopIds (bodyOf Tryz.f213)).Nodup := by decide +kernel
theorem cb214 : callable Tryz.prog 214 = true := by kernel_rfl
theorem ok214 : okFunc (cx.at 214) Tryz.f214 = true := by kernel_rfl
theorem nd214 : (loopIds (bodyOf Tryz.f214)).Nodup := by decide +kernel
theorem cb215 : callable Tryz.prog 215 = true := by kernel_rfl
theorem ok215 : okFunc (cx.at 215) Tryz.f215 = true := by kernel_rfl
theorem nd215 : (loopIds (bodyOf Tryz.f215)).Nodup := by decide +kernel
theorem cb220 : callable Tryz.prog 220 = true := by kernel_rfl
theorem ok220 : okFunc (cx.at 220) Tryz.f220 = true := by kernel_rfl
theorem nd220 : (loopIds (bodyOf Tryz.f220)).Nodup := by decide +kernel
theorem cb223 : callable Tryz.prog 223 = true := by kernel_rfl
theorem ok223 : okFunc (cx.at 223) Tryz.f223 = true := by kernel_rfl
theorem nd223 : (loopIds (bodyOf Tryz.f223)).Nodup := by decide +kernel
theorem cb224 : callable Tryz.prog 224 = true := by kernel_rfl
theorem ok224 : okFunc (cx.at 224) Tryz.f224 = true := by kernel_rfl
theorem nd224 : (loopIds (bodyOf Tryz.f224)).Nodup := by decide +kernel
theorem cb225 : callable Tryz.prog 225 = true := by kernel_rfl
theorem ok225 : okFunc (cx.at 225) Tryz.f225 = true := by kernel_rfl
theorem nd225 : (loopIds (bodyOf Tryz.f225)).Nodup := by decide +kernel
theorem cb226 : callable Tryz.prog 226 = true := by kernel_rfl
theorem ok226 : okFunc (cx.at 226) Tryz.f226 = true := by kernel_rfl
theorem nd226 : (loopIds (bodyOf Tryz.f226)).Nodup := by decide +kernel
theorem cb234 : callable Tryz.prog 234 = true := by kernel_rfl
theorem ok234 : okFunc (cx.at 234) Tryz.f234 = true := by kernel_rfl
theorem nd234 : (loopIds (bodyOf Tryz.f234)).Nodup := by decide +kernel
theorem cb235 : callable Tryz.prog 235 = true := by kernel_rfl
theorem ok235 : okFunc (cx.at 235) Tryz.f235 = true := by kernel_rfl
theorem nd235 : (loopIds (bodyOf Tryz.f235)).Nodup := by decide +kernel
theorem cb236 : callable Tryz.prog 236 = true := by kernel_rfl
theorem ok236 : okFunc (cx.at 236) Tryz.f236 = true := by kernel_rfl
theorem nd236 : (loopIds (bodyOf Tryz.f236)).Nodup := by decide +kernel
theorem cb237 : callable Tryz.prog 237 = true := by kernel_rfl
theorem ok237 : okFunc (cx.at 237) Tryz.f237 = true := by kernel_rfl
theorem nd237 : (loopIds (bodyOf Tryz.f237)).Nodup := by decide +kernel
theorem cb255 : callable Tryz.prog 255 = true := by kernel_rfl
theorem ok255 : okFunc (cx.at 255) Tryz.f255 = true := by kernel_rfl
theorem nd255 : (loopIds (bodyOf Tryz.f255)).Nodup := by decide +kernel
theorem cb256 : callable Tryz.prog 256 = true := by kernel_rfl
theorem ok256 : okFunc (cx.at 256) Tryz.f256 = true := by kernel_rfl
theorem nd256 : (loopIds (bodyOf Tryz.f256)).Nodup := by decide +kernel
theorem cb257 : callable Tryz.prog 257 = true := by kernel_rfl
theorem ok257 : okFunc (cx.at 257) Tryz.f257 = true := by kernel_rfl
theorem nd257 : (loopIds (bodyOf Tryz.f257)).Nodup := by decide +kernel
theorem cb258 : callable Tryz.prog 258 = true := by kernel_rfl
theorem ok258 : okFunc (cx.at 258) Tryz.f258 = true := by kernel_rfl
theorem nd258 : (loopIds (bodyOf Tryz.f258)).Nodup := by decide +kernel
theorem cb259 : callable Tryz.prog 259 = true := by kernel_rfl
theorem ok259 : okFunc (cx.at 259) Tryz.f259 = true := by kernel_rfl
theorem nd259 : (loopIds (bodyOf Tryz.f259)).Nodup := by decide +kernel
theorem cb260 : callable Tryz.prog 260 = true := by kernel_rfl
-- 260 (*strings.Builder).String: not in order: [region 1: [(6, 0), (7, 0), (8, 0), (9, 0)]; fits true]
theorem cb261 : callable Tryz.prog 261 = true := by kernel_rfl
theorem ok261 : okFunc (cx.at 261) Tryz.f261 = true := by kernel_rfl
theorem nd261 : (loopIds (bodyOf Tryz.f261)).Nodup := by decide +kernel
theorem cb262 : callable Tryz.prog 262 = true := by kernel_rfl
theorem ok262 : okFunc (cx.at 262) Tryz.f262 = true := by kernel_rfl
theorem nd262 : (loopIds (bodyOf Tryz.f262)).Nodup := by decide +kernel
theorem cb265 : callable Tryz.prog 265 = true := by kernel_rfl
theorem ok265 : okFunc (cx.at 265) Tryz.f265 = true := by kernel_rfl
theorem nd265 : (loopIds (bodyOf Tryz.f265)).Nodup := by decide +kernel
theorem cb266 : callable Tryz.prog 266 = true := by kernel_rfl
theorem ok266 : okFunc (cx.at 266) Tryz.f266 = true := by kernel_rfl
theorem nd266 : (loopIds (bodyOf Tryz.f266)).Nodup := by decide +kernel
theorem cb267 : callable Tryz.prog 267 = true := by kernel_rfl
theorem ok267 : okFunc (cx.at 267) Tryz.f267 = true := by kernel_rfl
theorem nd267 : (loopIds (bodyOf Tryz.f267)).Nodup := by decide +kernel
theorem cb268 : callable Tryz.prog 268 = true := by kernel_rfl
theorem ok268 : okFunc (cx.at 268) Tryz.f268 = true := by kernel_rfl
theorem nd268 : (loopIds (bodyOf Tryz.f268)).Nodup := by decide +kernel
theorem cb269 : callable Tryz.prog 269 = true := by kernel_rfl
theorem ok269 : okFunc (cx.at 269) Tryz.f269 = true := by kernel_rfl
theorem nd269 : (loopIds (bodyOf Tryz.f269)).Nodup := by decide +kernel
theorem cb270 : callable Tryz.prog 270 = true := by kernel_rfl
theorem ok270 : okFunc (cx.at 270) Tryz.f270 = true := by kernel_rfl
theorem nd270 : (loopIds (bodyOf Tryz.f270)).Nodup := by decide +kernel
theorem cb271 : callable Tryz.prog 271 = true := by kernel_rfl
theorem ok271 : okFunc (cx.at 271) Tryz.f271 = true := by kernel_rfl
theorem nd271 : (loopIds (bodyOf Tryz.f271)).Nodup := by decide +kernel
theorem cb272 : callable Tryz.prog 272 = true := by kernel_rfl
theorem ok272 : okFunc (cx.at 272) Tryz.f272 = true := by kernel_rfl
theorem nd272 : (loopIds (bodyOf Tryz.f272)).Nodup := by decide +kernel
theorem cb273 : callable Tryz.prog 273 = true := by kernel_rfl
theorem ok273 : okFunc (cx.at 273) Tryz.f273 = true := by kernel_rfl
theorem nd273 : (loopIds (bodyOf Tryz.f273)).Nodup := by decide +kernel
theorem cb274 : callable Tryz.prog 274 = true := by kernel_rfl
theorem ok274 : okFunc (cx.at 274) Tryz.f274 = true := by kernel_rfl
theorem nd274 : (loopIds (bodyOf Tryz.f274)).Nodup := by decide +kernel
theorem cb276 : callable Tryz.prog 276 = true := by kernel_rfl
theorem ok276 : okFunc (cx.at 276) Tryz.f276 = true := by kernel_rfl
theorem nd276 : (loopIds (bodyOf Tryz.f276)).Nodup := by decide +kernel
theorem cb277 : callable Tryz.prog 277 = true := by kernel_rfl
theorem ok277 : okFunc (cx.at 277) Tryz.f277 = true := by kernel_rfl
theorem nd277 : (loopIds (bodyOf Tryz.f277)).Nodup := by decide +kernel
theorem cb278 : callable Tryz.prog 278 = true := by kernel_rfl
theorem ok278 : okFunc (cx.at 278) Tryz.f278 = true := by kernel_rfl
theorem nd278 : (loopIds (bodyOf Tryz.f278)).Nodup := by decide +kernel
theorem cb280 : callable Tryz.prog 280 = true := by kernel_rfl
theorem ok280 : okFunc (cx.at 280) Tryz.f280 = true := by kernel_rfl
theorem nd280 : (loopIds (bodyOf Tryz.f280)).Nodup := by decide +kernel
theorem cb281 : callable Tryz.prog 281 = true := by kernel_rfl
theorem ok281 : okFunc (cx.at 281) Tryz.f281 = true := by kernel_rfl
theorem nd281 : (loopIds (bodyOf Tryz.f281)).Nodup := by decide +kernel
theorem cb283 : callable Tryz.prog 283 = true := by kernel_rfl
theorem ok283 : okFunc (cx.at 283) Tryz.f283 = true := by kernel_rfl
theorem nd283 : (loopIds (bodyOf Tryz.f283)).Nodup := by decide +kernel
theorem cb287 : callable Tryz.prog 287 = true := by kernel_rfl
theorem ok287 : okFunc (cx.at 287) Tryz.f287 = true := by kernel_rfl
theorem nd287 : (loopIds (bodyOf Tryz.f287)).Nodup := by decide +kernel
theorem cb288 : callable Tryz.prog 288 = true := by kernel_rfl
theorem ok288 : okFunc (cx.at 288) Tryz.f288 = true := by kernel_rfl
theorem nd288 : (loopIds (bodyOf Tryz.f288)).Nodup := by decide +kernel
theorem cb289 : callable Tryz.prog 289 = true := by kernel_rfl
theorem ok289 : okFunc (cx.at 289) Tryz.f289 = true := by kernel_rfl
theorem nd289 : (loopIds (bodyOf Tryz.f289)).Nodup := by decide +kernel
theorem cb290 : callable Tryz.prog 290 = true := by kernel_rfl
theorem ok290 : okFunc (cx.at 290) Tryz.f290 = true := by kernel_rfl
theorem nd290 : (loopIds (bodyOf Tryz.f290)).Nodup := by decide +kernel
theorem cb291 : callable Tryz.prog 291 = true := by kernel_rfl
theorem ok291 : okFunc (cx.at 291) Tryz.f291 = true := by kernel_rfl
theorem nd291 : (loopIds (bodyOf Tryz.f291)).Nodup := by decide +kernel
theorem cb301 : callable Tryz.prog 301 = true := by kernel_rfl
theorem ok301 : okFunc (cx.at 301) Tryz.f301 = true := by kernel_rfl
theorem nd301 : (loopIds (bodyOf Tryz.f301)).Nodup := by decide +kernel
end Go.Proofs.YtaldobgfbkllfaaGreatDoor

/-
  What strconv.ParseInt, strconv.FormatInt and strings.Compare answer: out of the library's own proofs of them, at this program's numbers.
-/
namespace Go.Proofs.YtaldobgfbkllfaaGreatDoor
open Vai
open Go.RowKit (Below)
def lays154_ren : Go.Shelf.Ren := ⟨fun | 174 => 154 | 247 => 169 | 245 => 170 | 287 => 182 | 279 => 183 | 280 => 184 | 281 => 185 | 282 => 186 | 321 => 200 | 322 => 201 | 316 => 202 | 171 => 204 | 205 => 203 | 243 => 214 | 246 => 160 | 283 => 174 | 284 => 175 | 285 => 176 | 286 => 177 | 129 => 190 | 317 => 189 | 318 => 191 | 319 => 192 | 320 => 193 | 337 => 206 | 338 => 207 | n => n, fun | 9 => 9 | 3 => 3 | 2 => 2 | 75 => 181 | 85 => 182 | 4 => 4 | 167 => 217 | 5 => 5 | 53 => 170 | 175 => 218 | 46 => 146 | 168 => 220 | 37 => 163 | 0 => 0 | 210 => 246 | 21 => 21 | 127 => 263 | 145 => 266 | 143 => 264 | 171 => 209 | 173 => 212 | 212 => 225 | 51 => 191 | 20 => 20 | 213 => 226 | 232 => 267 | 233 => 268 | 80 => 159 | n => n, fun | 15 => 4 | 16 => 5 | 17 => 3 | 18 => 6 | 19 => 7 | n => n⟩
theorem lays154 : Go.Proofs.LaysC.n174 Tryz.prog lays154_ren where
  mixed := by kernel_rfl
  f129 := Tryz.func190.trans (congrArg some (by kernel_rfl))
  f171 := Tryz.func204.trans (congrArg some (by kernel_rfl))
  f174 := Tryz.func154.trans (congrArg some (by kernel_rfl))
  f205 := Tryz.func203.trans (congrArg some (by kernel_rfl))
  f243 := Tryz.func214.trans (congrArg some (by kernel_rfl))
  f245 := Tryz.func170.trans (congrArg some (by kernel_rfl))
  f246 := Tryz.func160.trans (congrArg some (by kernel_rfl))
  f247 := Tryz.func169.trans (congrArg some (by kernel_rfl))
  f279 := Tryz.func183.trans (congrArg some (by kernel_rfl))
  f280 := Tryz.func184.trans (congrArg some (by kernel_rfl))
  f281 := Tryz.func185.trans (congrArg some (by kernel_rfl))
  f282 := Tryz.func186.trans (congrArg some (by kernel_rfl))
  f283 := Tryz.func174.trans (congrArg some (by kernel_rfl))
  f284 := Tryz.func175.trans (congrArg some (by kernel_rfl))
  f285 := Tryz.func176.trans (congrArg some (by kernel_rfl))
  f286 := Tryz.func177.trans (congrArg some (by kernel_rfl))
  f287 := Tryz.func182.trans (congrArg some (by kernel_rfl))
  f316 := Tryz.func202.trans (congrArg some (by kernel_rfl))
  f317 := Tryz.func189.trans (congrArg some (by kernel_rfl))
  f318 := Tryz.func191.trans (congrArg some (by kernel_rfl))
  f319 := Tryz.func192.trans (congrArg some (by kernel_rfl))
  f320 := Tryz.func193.trans (congrArg some (by kernel_rfl))
  f321 := Tryz.func200.trans (congrArg some (by kernel_rfl))
  f322 := Tryz.func201.trans (congrArg some (by kernel_rfl))
  f337 := Tryz.func206.trans (congrArg some (by kernel_rfl))
  f338 := Tryz.func207.trans (congrArg some (by kernel_rfl))
  t0 := Tryz.underlying0
  a0 := Tryz.isAgg0
  z0 := Tryz.sizeOf0
  v0 := Tryz.zeroValue0
  t2 := Tryz.underlying2
  a2 := Tryz.isAgg2
  z2 := Tryz.sizeOf2
  v2 := Tryz.zeroValue2
  t3 := Tryz.underlying3
  a3 := Tryz.isAgg3
  z3 := Tryz.sizeOf3
  v3 := Tryz.zeroValue3
  t4 := Tryz.underlying4
  a4 := Tryz.isAgg4
  z4 := Tryz.sizeOf4
  v4 := Tryz.zeroValue4
  t5 := Tryz.underlying5
  a5 := Tryz.isAgg5
  z5 := Tryz.sizeOf5
  v5 := Tryz.zeroValue5
  t9 := Tryz.underlying9
  a9 := Tryz.isAgg9
  z9 := Tryz.sizeOf9
  v9 := Tryz.zeroValue9
  t20 := Tryz.underlying20
  a20 := Tryz.isAgg20
  z20 := Tryz.sizeOf20
  v20 := Tryz.zeroValue20
  t21 := Tryz.underlying21
  a21 := Tryz.isAgg21
  z21 := Tryz.sizeOf21
  v21 := Tryz.zeroValue21
  t37 := Tryz.underlying163
  a37 := Tryz.isAgg163
  z37 := Tryz.sizeOf163
  v37 := Tryz.zeroValue163
  t46 := Tryz.underlying146
  a46 := Tryz.isAgg146
  z46 := Tryz.sizeOf146
  v46 := Tryz.zeroValue146
  t51 := Tryz.underlying191
  a51 := Tryz.isAgg191
  z51 := Tryz.sizeOf191
  v51 := Tryz.zeroValue191
  t53 := Tryz.underlying170
  a53 := Tryz.isAgg170
  z53 := Tryz.sizeOf170
  v53 := Tryz.zeroValue170
  t75 := Tryz.underlying181
  a75 := Tryz.isAgg181
  z75 := Tryz.sizeOf181
  v75 := Tryz.zeroValue181
  t85 := Tryz.underlying182
  a85 := Tryz.isAgg182
  z85 := Tryz.sizeOf182
  v85 := Tryz.zeroValue182
  t127 := Tryz.underlying263
  a127 := Tryz.isAgg263
  z127 := Tryz.sizeOf263
  v127 := Tryz.zeroValue263
  t143 := Tryz.underlying264
  a143 := Tryz.isAgg264
  z143 := Tryz.sizeOf264
  v143 := Tryz.zeroValue264
  t145 := Tryz.underlying266
  a145 := Tryz.isAgg266
  z145 := Tryz.sizeOf266
  v145 := Tryz.zeroValue266
  t167 := Tryz.underlying217
  a167 := Tryz.isAgg217
  z167 := Tryz.sizeOf217
  v167 := Tryz.zeroValue217
  t168 := Tryz.underlying220
  a168 := Tryz.isAgg220
  z168 := Tryz.sizeOf220
  v168 := Tryz.zeroValue220
  t171 := Tryz.underlying209
  a171 := Tryz.isAgg209
  z171 := Tryz.sizeOf209
  v171 := Tryz.zeroValue209
  t173 := Tryz.underlying212
  a173 := Tryz.isAgg212
  z173 := Tryz.sizeOf212
  v173 := Tryz.zeroValue212
  t175 := Tryz.underlying218
  a175 := Tryz.isAgg218
  z175 := Tryz.sizeOf218
  v175 := Tryz.zeroValue218
  t210 := Tryz.underlying246
  a210 := Tryz.isAgg246
  z210 := Tryz.sizeOf246
  v210 := Tryz.zeroValue246
  t212 := Tryz.underlying225
  a212 := Tryz.isAgg225
  z212 := Tryz.sizeOf225
  v212 := Tryz.zeroValue225
  t213 := Tryz.underlying226
  a213 := Tryz.isAgg226
  z213 := Tryz.sizeOf226
  t232 := Tryz.underlying267
  a232 := Tryz.isAgg267
  z232 := Tryz.sizeOf267
  v232 := Tryz.zeroValue267
  t233 := Tryz.underlying268
  a233 := Tryz.isAgg268
  z233 := Tryz.sizeOf268
  v233 := Tryz.zeroValue268
  g15 := by kernel_rfl
  g16 := by kernel_rfl
  g17 := by kernel_rfl
  g18 := by kernel_rfl
  g19 := by kernel_rfl
  t80 := Tryz.underlying159
  a80 := Tryz.isAgg159
  z80 := Tryz.sizeOf159
  v80 := Tryz.zeroValue159
  i0 := by kernel_rfl
  i2 := by kernel_rfl
  i3 := by kernel_rfl
  i4 := by kernel_rfl
  i5 := by kernel_rfl
  i9 := by kernel_rfl
  i20 := by kernel_rfl
  i21 := by kernel_rfl
  i37 := by kernel_rfl
  i46 := by kernel_rfl
  i51 := by kernel_rfl
  i53 := by kernel_rfl
  i75 := by kernel_rfl
  i80 := by kernel_rfl
  i85 := by kernel_rfl
  i127 := by kernel_rfl
  i143 := by kernel_rfl
  i145 := by kernel_rfl
  i167 := by kernel_rfl
  i168 := by kernel_rfl
  i171 := by kernel_rfl
  i173 := by kernel_rfl
  i175 := by kernel_rfl
  i210 := by kernel_rfl
  i212 := by kernel_rfl
  i232 := by kernel_rfl
  i233 := by kernel_rfl
  m15 := by kernel_rfl
  m16 := by kernel_rfl
  m17 := by kernel_rfl
  m18 := by kernel_rfl
  m19 := by kernel_rfl
  c0 := by kernel_rfl
  c2 := by kernel_rfl
  c3 := by kernel_rfl
  c4 := by kernel_rfl
  c5 := by kernel_rfl
  c9 := by kernel_rfl
  c20 := by kernel_rfl
  c21 := by kernel_rfl
  c37 := by kernel_rfl
  c46 := by kernel_rfl
  c51 := by kernel_rfl
  c53 := by kernel_rfl
  c75 := by kernel_rfl
  c80 := by kernel_rfl
  c85 := by kernel_rfl
  c127 := by kernel_rfl
  c143 := by kernel_rfl
  c145 := by kernel_rfl
  c167 := by kernel_rfl
  c168 := by kernel_rfl
  c171 := by kernel_rfl
  c173 := by kernel_rfl
  c175 := by kernel_rfl
  c210 := by kernel_rfl
  c212 := by kernel_rfl
  c213 := by kernel_rfl
  c232 := by kernel_rfl
  c233 := by kernel_rfl
def lays133_ren : Go.Shelf.Ren := ⟨fun | 173 => 133 | 246 => 160 | 283 => 174 | 284 => 175 | 285 => 176 | 286 => 177 | 129 => 190 | 317 => 189 | 318 => 191 | 319 => 192 | 320 => 193 | 337 => 206 | 338 => 207 | n => n, fun | 2 => 2 | 3 => 3 | 9 => 9 | 4 => 4 | 171 => 209 | 0 => 0 | 53 => 170 | 37 => 163 | 5 => 5 | 173 => 212 | 212 => 225 | 51 => 191 | 20 => 20 | 213 => 226 | 46 => 146 | 232 => 267 | 233 => 268 | n => n, fun | 17 => 3 | 18 => 6 | 19 => 7 | n => n⟩
theorem lays133 : Go.Proofs.LaysM.n173 Tryz.prog lays133_ren where
  mixed := by kernel_rfl
  f129 := Tryz.func190.trans (congrArg some (by kernel_rfl))
  f173 := Tryz.func133.trans (congrArg some (by kernel_rfl))
  f246 := Tryz.func160.trans (congrArg some (by kernel_rfl))
  f283 := Tryz.func174.trans (congrArg some (by kernel_rfl))
  f284 := Tryz.func175.trans (congrArg some (by kernel_rfl))
  f285 := Tryz.func176.trans (congrArg some (by kernel_rfl))
  f286 := Tryz.func177.trans (congrArg some (by kernel_rfl))
  f317 := Tryz.func189.trans (congrArg some (by kernel_rfl))
  f318 := Tryz.func191.trans (congrArg some (by kernel_rfl))
  f319 := Tryz.func192.trans (congrArg some (by kernel_rfl))
  f320 := Tryz.func193.trans (congrArg some (by kernel_rfl))
  f337 := Tryz.func206.trans (congrArg some (by kernel_rfl))
  f338 := Tryz.func207.trans (congrArg some (by kernel_rfl))
  t0 := Tryz.underlying0
  a0 := Tryz.isAgg0
  z0 := Tryz.sizeOf0
  v0 := Tryz.zeroValue0
  t2 := Tryz.underlying2
  a2 := Tryz.isAgg2
  z2 := Tryz.sizeOf2
  v2 := Tryz.zeroValue2
  t3 := Tryz.underlying3
  a3 := Tryz.isAgg3
  z3 := Tryz.sizeOf3
  v3 := Tryz.zeroValue3
  t4 := Tryz.underlying4
  a4 := Tryz.isAgg4
  z4 := Tryz.sizeOf4
  v4 := Tryz.zeroValue4
  t5 := Tryz.underlying5
  a5 := Tryz.isAgg5
  z5 := Tryz.sizeOf5
  v5 := Tryz.zeroValue5
  t9 := Tryz.underlying9
  a9 := Tryz.isAgg9
  z9 := Tryz.sizeOf9
  v9 := Tryz.zeroValue9
  t20 := Tryz.underlying20
  a20 := Tryz.isAgg20
  z20 := Tryz.sizeOf20
  v20 := Tryz.zeroValue20
  t37 := Tryz.underlying163
  a37 := Tryz.isAgg163
  z37 := Tryz.sizeOf163
  v37 := Tryz.zeroValue163
  t46 := Tryz.underlying146
  a46 := Tryz.isAgg146
  z46 := Tryz.sizeOf146
  v46 := Tryz.zeroValue146
  t51 := Tryz.underlying191
  a51 := Tryz.isAgg191
  z51 := Tryz.sizeOf191
  v51 := Tryz.zeroValue191
  t53 := Tryz.underlying170
  a53 := Tryz.isAgg170
  z53 := Tryz.sizeOf170
  v53 := Tryz.zeroValue170
  t171 := Tryz.underlying209
  a171 := Tryz.isAgg209
  z171 := Tryz.sizeOf209
  v171 := Tryz.zeroValue209
  t173 := Tryz.underlying212
  a173 := Tryz.isAgg212
  z173 := Tryz.sizeOf212
  v173 := Tryz.zeroValue212
  t212 := Tryz.underlying225
  a212 := Tryz.isAgg225
  z212 := Tryz.sizeOf225
  v212 := Tryz.zeroValue225
  t213 := Tryz.underlying226
  a213 := Tryz.isAgg226
  z213 := Tryz.sizeOf226
  t232 := Tryz.underlying267
  a232 := Tryz.isAgg267
  z232 := Tryz.sizeOf267
  v232 := Tryz.zeroValue267
  t233 := Tryz.underlying268
  a233 := Tryz.isAgg268
  z233 := Tryz.sizeOf268
  v233 := Tryz.zeroValue268
  g17 := by kernel_rfl
  g18 := by kernel_rfl
  g19 := by kernel_rfl
  i0 := by kernel_rfl
  i2 := by kernel_rfl
  i3 := by kernel_rfl
  i4 := by kernel_rfl
  i5 := by kernel_rfl
  i9 := by kernel_rfl
  i20 := by kernel_rfl
  i37 := by kernel_rfl
  i46 := by kernel_rfl
  i51 := by kernel_rfl
  i53 := by kernel_rfl
  i171 := by kernel_rfl
  i173 := by kernel_rfl
  i212 := by kernel_rfl
  i232 := by kernel_rfl
  i233 := by kernel_rfl
  m17 := by kernel_rfl
  m18 := by kernel_rfl
  m19 := by kernel_rfl
def lays101_ren : Go.Shelf.Ren := ⟨fun | 106 => 101 | 213 => 139 | 265 => 164 | n => n, fun | 9 => 9 | 3 => 3 | n => n, fun | n => n⟩
theorem lays101 : Go.Proofs.Lays.n106 Tryz.prog lays101_ren where
  mixed := by kernel_rfl
  f106 := Tryz.func101.trans (congrArg some (by kernel_rfl))
  f213 := Tryz.func139.trans (congrArg some (by kernel_rfl))
  f265 := Tryz.func164.trans (congrArg some (by kernel_rfl))
  t3 := Tryz.underlying3
  a3 := Tryz.isAgg3
  z3 := Tryz.sizeOf3
  v3 := Tryz.zeroValue3
  t9 := Tryz.underlying9
  a9 := Tryz.isAgg9
  z9 := Tryz.sizeOf9
  v9 := Tryz.zeroValue9
/-- strconv.ErrSyntax and strconv.ErrRange hold an error, or nil. -/
def errOK (w : World) (g : Nat) : Prop := ∃ ev : Value, w.cell? ⟨g, 0, none⟩ = some ev ∧ (ev = .nilIface ∨ ∃ te pe, ev = .iface te pe)
theorem glob3 : Tryz.prog.globalNamed "internal/strconv.uint64pow10" = some 3 := by kernel_rfl
theorem tab_stay {w w' : World} (h : w'.heap[3]? = w.heap[3]?) (ht : Lib.TabIs Tryz.prog w "internal/strconv.uint64pow10" .u64 Lib.pow10Tab) : Lib.TabIs Tryz.prog w' "internal/strconv.uint64pow10" .u64 Lib.pow10Tab := by
  unfold Lib.TabIs World.var? at ht ⊢
  rw [glob3] at ht ⊢
  simp only [Option.bind_some] at ht ⊢
  rw [h]
  exact ht
/-- What is known of the package variables. -/
class GlY extends Gl where
  base : ∀ w : World, Gl.ok w → (errOK w 4 ∧ errOK w 5) ∧ Lib.TabIs Tryz.prog w "internal/strconv.uint64pow10" .u64 Lib.pow10Tab
variable [GlY]
theorem decF_eq : ∀ (f n : Nat), 0 < f → n < 10 ^ f → decF f n = Lib.decDigits n
  | 0, n, h, _ => absurd h (Nat.lt_irrefl _)
  | f + 1, n, _, hn => by
    rw [decF, Lib.decDigits]
    by_cases h10 : n < 10
    · rw [if_pos h10, dif_pos h10]
    · rw [if_neg h10, dif_neg h10]
      have hp : (10 : Nat) ^ (f + 1) = 10 ^ f * 10 := Nat.pow_succ ..
      have hf : 0 < f := by
        rcases Nat.eq_zero_or_pos f with rfl | hf
        · simp at hn; omega
        · exact hf
      rw [decF_eq f (n / 10) hf (by omega)]
theorem itoaF_eq {n : Int} (h0 : -9223372036854775808 ≤ n) (h1 : n ≤ 9223372036854775807) : itoaF n = Lib.itoa n := by
  unfold itoaF Lib.itoa
  have hp : (10 : Nat) ^ 20 = 100000000000000000000 := by decide
  split
  · rw [decF_eq 20 _ (by decide) (by rw [hp]; omega)]
  · rw [decF_eq 20 _ (by decide) (by rw [hp]; omega)]
theorem two_vals {vs : Array Value} {a b : D} (hl : [a, b].length = vs.size) : ∃ v0 v1, vs = #[v0, v1] := ⟨vs[0]'(by simp at hl; omega), vs[1]'(by simp at hl; omega), by
  refine Array.ext (by simp at hl ⊢; omega) fun i h1 h2 => ?_
  match i, (show i < 2 by simpa using h2) with
  | 0, _ => rfl
  | 1, _ => rfl⟩
theorem fmt_ok : ∀ (args : List D) (h : H) (d : D) (h' : H) (m : M) (w : World) (vs : Array Value), HR m w h → AV m w h.next args vs → fmtA 133 args h = some (d, h') → Calls Tryz.prog 133 vs w fun e w' => ∃ v m', e = .returned v ∧ Eff m w h d v w' h' m' := by
  intro args h d h' m w vs hr hv hc
  unfold fmtA at hc
  split at hc
  · split at hc
    · rename_i n b hcond
      obtain ⟨rfl, h0, h1⟩ := hcond
      cases hc
      obtain ⟨hl, hv⟩ := hv
      obtain ⟨v0, v1, rfl⟩ := two_vals hl
      have q0 := (hv 0 _ v0 rfl rfl).1
      have q1 := (hv 1 _ v1 rfl rfl).1
      cases q0 with
      | t q0 =>
      cases q1 with
      | t q1 =>
      cases q0; cases q1
      refine (Any.strconv_FormatInt_10 lays133 n h0 h1 w (GlY.base w hr.glob.1).2).mono fun e w' ⟨he, k, os, hw⟩ => ?_
      subst hw
      refine ⟨_, m, he, .of_below hr ?_ ?_ rfl⟩
      · exact Lib.below_grow _ _ (Nat.le_refl _) _ _
      · rw [itoaF_eq h0 h1]; exact .t (.str _)
    · cases hc
  · cases hc
theorem cmp_ok : ∀ (args : List D) (h : H) (d : D) (h' : H) (m : M) (w : World) (vs : Array Value), HR m w h → AV m w h.next args vs → cmpA 101 args h = some (d, h') → Calls Tryz.prog 101 vs w fun e w' => ∃ v m', e = .returned v ∧ Eff m w h d v w' h' m' := by
  intro args h d h' m w vs hr hv hc
  unfold cmpA at hc
  split at hc
  · cases hc
    obtain ⟨hl, hv⟩ := hv
    obtain ⟨v0, v1, rfl⟩ := two_vals hl
    have q0 := (hv 0 _ v0 rfl rfl).1
    have q1 := (hv 1 _ v1 rfl rfl).1
    cases q0 with
    | t q0 =>
    cases q1 with
    | t q1 =>
    cases q0; cases q1
    refine (Any.strings_Compare lays101 _ _ w).mono fun e w' ⟨he, hw⟩ => ?_
    subst hw
    exact ⟨_, m, he, .of_below hr (Below.refl _ _) (.t (.int _ _)) rfl⟩
  · cases hc
theorem parse_ok : ∀ (args : List D) (h : H) (d : D) (h' : H) (m : M) (w : World) (vs : Array Value), HR m w h → AV m w h.next args vs → parseA 154 args h = some (d, h') → Calls Tryz.prog 154 vs w fun e w' => ∃ v m', e = .returned v ∧ Eff m w h d v w' h' m' := by
  intro args h d h' m w vs hr hv hc
  · unfold parseA at hc
    split at hc
    · rename_i s b z
      split at hc
      · rename_i hcond
        obtain ⟨rfl, rfl, hs⟩ := hcond
        obtain ⟨hl, hv⟩ := hv
        obtain ⟨v0, v1, v2, rfl⟩ : ∃ v0 v1 v2, vs = #[v0, v1, v2] := ⟨vs[0]'(by simp at hl; omega), vs[1]'(by simp at hl; omega), vs[2]'(by simp at hl; omega), by
          refine Array.ext (by simp at hl ⊢; omega) fun i h1 h2 => ?_
          match i, (show i < 3 by simpa using h2) with
          | 0, _ => rfl
          | 1, _ => rfl
          | 2, _ => rfl⟩
        have q0 := (hv 0 _ v0 rfl rfl).1
        have q1 := (hv 1 _ v1 rfl rfl).1
        have q2 := (hv 2 _ v2 rfl rfl).1
        cases q0 with
        | t q0 =>
        cases q1 with
        | t q1 =>
        cases q2 with
        | t q2 =>
        cases q0; cases q1; cases q2
        obtain ⟨⟨e0, g0, k0⟩, ⟨e1, g1, k1⟩⟩ := (GlY.base w hr.glob.1).1
        split at hc
        · rename_i v hp
          cases hc
          refine (Any.strconv_ParseInt_10_at64_ok lays154 s (by omega) v hp w).mono fun e w' ⟨he, hw⟩ => ⟨_, m, he, ?_⟩
          have hb : Below w.heap.size w w' := by
            rcases hw with rfl | ⟨t, rfl⟩
            · exact Below.refl _ _
            · exact Lib.bytesWorld_below _ _ _
          refine .of_below hr hb (.tup rfl fun i d' v' hd hv => ?_) rfl
          match i with
          | 0 => simp at hd hv; subst hd; subst hv; exact .t (.int _ _)
          | 1 => simp at hd hv; subst hd; subst hv; exact .t .nilIface
          | i + 2 => simp at hd
        · rename_i hp
          have hcs : d = .tup [.undef, .iface 220 .undef] ∧ h' = h := by
            simp only [Option.some.injEq, Prod.mk.injEq] at hc
            exact ⟨hc.1.symm, hc.2.symm⟩
          obtain ⟨rfl, rfl⟩ := hcs
          have fin : ∀ (x : Value) (N : Nat) (w' : World), Below w.heap.size w w' → Eff m w h' (.tup [.undef, .iface 220 .undef]) (.tuple #[x, .iface 220 (.pointer (some ⟨N, 0, none⟩))]) w' h' m := fun x N w' hb => by
            refine .of_below hr hb (.tup rfl fun i d' v' hd hv => ?_) rfl
            match i with
            | 0 => simp at hd hv; subst hd; subst hv; exact .undef _
            | 1 => simp at hd hv; subst hd; subst hv; exact .iface (.undef _)
            | i + 2 => simp at hd
          rcases hpp : Lib.parseIntB 64 s.data.toList with v | _ | _
          · exact absurd hpp (hp v)
          · refine (Any.strconv_ParseInt_10_at64_syntax lays154 s (by omega) hpp e0 w g0 k0).mono fun e w' ⟨N, he, _, _, hb⟩ => ?_
            exact ⟨_, m, he, fin _ N w' hb⟩
          · refine (Any.strconv_ParseInt_10_at64_range lays154 s (by omega) hpp e1 w g1 k1).mono fun e w' ⟨N, he, _, _, hb⟩ => ?_
            exact ⟨_, m, he, fin _ N w' hb⟩
      · cases hc
    · cases hc
end Go.Proofs.YtaldobgfbkllfaaGreatDoor

namespace Go.Proofs.YtaldobgfbkllfaaGreatDoor
open Vai
section
variable [Gl]
theorem hmix : Tryz.prog.follows .mixedOrders = true := by kernel_rfl
theorem okQ : okAll cx okT = true := by kernel_rfl
theorem g40OK : G40.OK cx Tryz.prog where
  hf := Tryz.func40
  hcf := Tryz.func74
  body := ⟨_, _, _, _, _, _, _, rfl⟩
  cbody := ⟨_, _, _, _, _, _, _, rfl⟩
  ok0 := by kernel_rfl
  ok1 := by kernel_rfl
  ok2 := by kernel_rfl
  place := by decide
  callable := by kernel_rfl
  cres := rfl
theorem a26OK : A26.OK cx Tryz.prog ords26 where
  hf := Tryz.func26
  body := ⟨_, rfl⟩
  ok1 := by kernel_rfl
  ok2 := by kernel_rfl
  ok3 := by kernel_rfl
  ns := by kernel_rfl
  ords := by kernel_rfl
theorem primLe : PLe primQ prim cx := fun k => by
  have hc : CLe c0 (call cx prim0) := fun k args h r hh => callN_call _ _ _ _ (callQ_le okQ _ _ _ _ _ hh)
  by_cases h1 : k = 40
  · subst h1
    exact .inl ⟨_, _, rfl, rfl, fun args h r hh => guardA_mono hc iter_loop hh⟩
  · by_cases h2 : k = 26
    · subst h2
      exact .inl ⟨_, _, rfl, rfl, fun args h r hh => altA_mono hc iter_loop hh⟩
    · have e1 : primQ k = prim0 k := by simp only [primQ, if_neg h1, if_neg h2]
      have e2 : prim k = prim0 k := by simp only [prim, if_neg h1, if_neg h2]
      cases hp : prim0 k with
      | none => exact .inr (.inl ⟨by rw [e1, hp], by rw [e2, hp]⟩)
      | some g => exact .inl ⟨g, g, by rw [e1, hp], by rw [e2, hp], fun _ _ _ h => h⟩
theorem no26 : okFunc (cx.at 26) Tryz.f26 = false := by kernel_rfl
theorem prim0Le : PLe prim0 prim cx := fun k => by
  by_cases h1 : k = 40
  · subst h1
    exact .inl ⟨_, _, rfl, rfl, fun args h r hh => by cases hh⟩
  · by_cases h2 : k = 26
    · subst h2
      exact .inr (.inr ⟨rfl, fun fn hf => by rw [cxP0, Tryz.func26] at hf; cases hf; exact no26⟩)
    · have e2 : prim k = prim0 k := by simp only [prim, if_neg h1, if_neg h2]
      cases hp : prim0 k with
      | none => exact .inr (.inl ⟨rfl, by rw [e2, hp]⟩)
      | some g => exact .inl ⟨g, g, rfl, by rw [e2, hp], fun _ _ _ h => h⟩
end
section
variable [GlY]
theorem prim0OK : PrimOK Tryz.prog prim0 := by
  intro k g hk args h d h' m w vs hr hv hc
  unfold prim0 at hk
  split at hk
  · rename_i e; subst e; cases hk; exact parse_ok args h d h' m w vs hr hv hc
  · split at hk
    · rename_i e; subst e; cases hk; exact fmt_ok args h d h' m w vs hr hv hc
    · split at hk
      · rename_i e; subst e; cases hk; exact cmp_ok args h d h' m w vs hr hv hc
      · split at hk
        · cases hk; cases hc
        · cases hk
theorem c0OK : CallOK Tryz.prog (call cx prim0) := call_ok cxP0 hmix prim0OK
theorem primOK : PrimOK Tryz.prog prim := by
  intro k g hk args h d h' m w vs hr hv hc
  unfold prim at hk
  split at hk
  · rename_i e; subst e; cases hk; exact guard_sound cxP0 hmix c0OK loop_ok g40OK hr hv hc
  · split at hk
    · rename_i e; subst e; cases hk; exact alt_sound cxP0 hmix c0OK loop_ok a26OK hr hv hc
    · exact prim0OK k g hk args h d h' m w vs hr hv hc
end
end Go.Proofs.YtaldobgfbkllfaaGreatDoor

namespace Go.Proofs.YtaldobgfbkllfaaGreatDoor
open Vai
variable [Gl]
set_option maxHeartbeats 0
set_option maxRecDepth 100000
/-- A part that is a variable; a part with two sides. -/
abbrev vP (n : ByteArray) (at_ : Int) : T := .agg [.int .i64 2, .int .i64 0, .int .i64 0, .int .i64 0, .int .i64 0, .int .i64 0, .str ⟨#[]⟩, .str n, .int .i64 at_]
abbrev bP (k a b at_ : Int) : T := .agg [.int .i64 k, .int .i64 a, .int .i64 b, .int .i64 0, .int .i64 0, .int .i64 0, .str ⟨#[]⟩, .str ⟨#[]⟩, .int .i64 at_]
abbrev dc2 (a b : ByteArray) (k : Int) : T := .slice [.agg [.str a, .int .i64 k], .agg [.str b, .int .i64 k]]
theorem np1 : snapEnd (callQ cx okT primQ 1000 20 [.t (.str ⟨#[97, 32, 43, 32, 98]⟩), .t (dc2 ⟨#[97]⟩ ⟨#[98]⟩ 1)] .empty) = some (.tup [.t (.slice [vP ⟨#[97]⟩ 0, vP ⟨#[98]⟩ 4, bP 9 0 1 2]), .t (.int .i64 0), .t (.int .i64 0)]) := by kernel_rfl
theorem np1k : snapEnd (callQ cx okT primQ 1000 26 [.t (.slice [vP ⟨#[97]⟩ 0, vP ⟨#[98]⟩ 4, bP 9 0 1 2]), .t (dc2 ⟨#[97]⟩ ⟨#[98]⟩ 1)] .empty) = some (.t (.int .i64 1)) := by kernel_rfl
theorem np2 : snapEnd (callQ cx okT primQ 1000 20 [.t (.str ⟨#[97, 32, 43, 32, 98, 32, 45, 32, 98]⟩), .t (dc2 ⟨#[97]⟩ ⟨#[98]⟩ 1)] .empty) = some (.tup [.t (.slice [vP ⟨#[97]⟩ 0, vP ⟨#[98]⟩ 4, bP 9 0 1 2, vP ⟨#[98]⟩ 8, bP 10 2 3 6]), .t (.int .i64 0), .t (.int .i64 0)]) := by kernel_rfl
theorem np2k : snapEnd (callQ cx okT primQ 1000 26 [.t (.slice [vP ⟨#[97]⟩ 0, vP ⟨#[98]⟩ 4, bP 9 0 1 2, vP ⟨#[98]⟩ 8, bP 10 2 3 6]), .t (dc2 ⟨#[97]⟩ ⟨#[98]⟩ 1)] .empty) = some (.t (.int .i64 1)) := by kernel_rfl
theorem np3 : snapEnd (callQ cx okT primQ 1000 20 [.t (.str ⟨#[97, 32, 42, 32, 98]⟩), .t (dc2 ⟨#[97]⟩ ⟨#[98]⟩ 1)] .empty) = some (.tup [.t (.slice [vP ⟨#[97]⟩ 0, vP ⟨#[98]⟩ 4, bP 6 0 1 2]), .t (.int .i64 0), .t (.int .i64 0)]) := by kernel_rfl
theorem np3k : snapEnd (callQ cx okT primQ 1000 26 [.t (.slice [vP ⟨#[97]⟩ 0, vP ⟨#[98]⟩ 4, bP 6 0 1 2]), .t (dc2 ⟨#[97]⟩ ⟨#[98]⟩ 1)] .empty) = some (.t (.int .i64 1)) := by kernel_rfl
theorem np4 : snapEnd (callQ cx okT primQ 1000 20 [.t (.str ⟨#[97, 32, 47, 32, 98]⟩), .t (dc2 ⟨#[97]⟩ ⟨#[98]⟩ 1)] .empty) = some (.tup [.t (.slice [vP ⟨#[97]⟩ 0, vP ⟨#[98]⟩ 4, bP 7 0 1 2]), .t (.int .i64 0), .t (.int .i64 0)]) := by kernel_rfl
theorem np4k : snapEnd (callQ cx okT primQ 1000 26 [.t (.slice [vP ⟨#[97]⟩ 0, vP ⟨#[98]⟩ 4, bP 7 0 1 2]), .t (dc2 ⟨#[97]⟩ ⟨#[98]⟩ 1)] .empty) = some (.t (.int .i64 1)) := by kernel_rfl
theorem np5 : snapEnd (callQ cx okT primQ 1000 20 [.t (.str ⟨#[97, 32, 37, 32, 98]⟩), .t (dc2 ⟨#[97]⟩ ⟨#[98]⟩ 1)] .empty) = some (.tup [.t (.slice [vP ⟨#[97]⟩ 0, vP ⟨#[98]⟩ 4, bP 8 0 1 2]), .t (.int .i64 0), .t (.int .i64 0)]) := by kernel_rfl
theorem np5k : snapEnd (callQ cx okT primQ 1000 26 [.t (.slice [vP ⟨#[97]⟩ 0, vP ⟨#[98]⟩ 4, bP 8 0 1 2]), .t (dc2 ⟨#[97]⟩ ⟨#[98]⟩ 1)] .empty) = some (.t (.int .i64 1)) := by kernel_rfl
end Go.Proofs.YtaldobgfbkllfaaGreatDoor
