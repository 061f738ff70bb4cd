/-
  No cell of these rows narrows 'for every input' (looked for: loops, veiled, ifaces, maps, wideKeys, modest, calm, conditions, laid).
  DERIVED. THE GIVEN ROWS OF THIS SEAT. 10 by the template 'for every input the law returns true; each argument reads behind the call as it read before'; 0 by the template 'total and deterministic' (their statements: YtccajagfgdchlaaTotals.lean).
  GIVEN WITH THE SEED: the statements are not yours to turn. If you find one false, say at which input.
  Laid BY PROGRAM, IN A SANDBOX (cutbox-rows.mjs): the forced cells as the released guide's own fill.sh prints them over the translation 99f52fe8bfeab3b6… (all of the seat's roots in one cut). By AI agents, Wed Nov 11 2026. No macro, syntax, notation, axiom, sorry.
-/
import Derived.Test.YtccajagfgdchlaaChecked
import GoSem.Claim
import GoSem.ClaimJoined
import GoSem.ClaimMapViews
import Derived.JoinedTies
import Derived.KernelRfl
namespace Go.Proofs.Ytccajagfgdchlaa
/- THE CELL 'sum', in the pinned program and in every row, IS THE sha256 OF THE DUMP (.gsa) THAT YtccajagfgdchlaaProg.lean LOADS. Nothing in Lean hashes anything: it is a label: what it is worth is what the hold of that sum in a sandbox is worth. -/
noncomputable def Try.pinned : Pinned := { name := "ytccajagfgdchlaa", sum := "99f52fe8bfeab3b63c89c69afe5cf9b53f3d99c849856194750784fab2673ae0", checked := Try.checked }
namespace Rows
def none {H : Type} : Left H := { results := [], args := [] }

/-- 'pavanelaw01.OctetPuts': WHATEVER THE INPUT: true; the input reads as it did. -/
def octetPutsSpec : ChangeSpec := { name := "octetPuts", fn := fun _ => fun
  | [d1, d2, d3, d4] => { results := [.lit (.bool true)], args := [d1, d2, d3, d4] }
  | _ => none }
def octetPutsRow : OpenClaim := { program := "ytccajagfgdchlaa", sum := "99f52fe8bfeab3b63c89c69afe5cf9b53f3d99c849856194750784fab2673ae0", func := "pavane/pavanelaw01.OctetPuts", spec := "octetPuts", apart := false }
def OctetPutsSaid : Prop := octetPutsRow.holds Try.pinned (OpenSpec.ofChange octetPutsSpec)

/-- ITS FALSE NEIGHBOUR: 'it returns false'. Refute it at one input. -/
def octetPutsWrong : ChangeSpec := { name := "octetPuts", fn := fun _ => fun
  | [d1, d2, d3, d4] => { results := [.lit (.bool false)], args := [d1, d2, d3, d4] }
  | _ => none }
def OctetPutsWrongFalsely : Prop := octetPutsRow.holds Try.pinned (OpenSpec.ofChange octetPutsWrong)

/-- 'pavanelaw23.WorkTries': WHATEVER THE INPUT: true; the input reads as it did. -/
def workTriesSpec : ChangeSpec := { name := "workTries", fn := fun _ => fun
  | [d1, d2] => { results := [.lit (.bool true)], args := [d1, d2] }
  | _ => none }
def workTriesRow : OpenClaim := { program := "ytccajagfgdchlaa", sum := "99f52fe8bfeab3b63c89c69afe5cf9b53f3d99c849856194750784fab2673ae0", func := "pavane/pavanelaw23.WorkTries", spec := "workTries", unfollowed := true, recurses := true, apart := false }
def WorkTriesSaid : Prop := workTriesRow.holds Try.pinned (OpenSpec.ofChange workTriesSpec)

/-- ITS FALSE NEIGHBOUR: 'it returns false'. Refute it at one input. -/
def workTriesWrong : ChangeSpec := { name := "workTries", fn := fun _ => fun
  | [d1, d2] => { results := [.lit (.bool false)], args := [d1, d2] }
  | _ => none }
def WorkTriesWrongFalsely : Prop := workTriesRow.holds Try.pinned (OpenSpec.ofChange workTriesWrong)

/-- 'pavanelaw01.OctetKeeps': WHATEVER THE INPUT: true; the input reads as it did. -/
def octetKeepsSpec : ChangeSpec := { name := "octetKeeps", fn := fun _ => fun
  | [d1, d2] => { results := [.lit (.bool true)], args := [d1, d2] }
  | _ => none }
def octetKeepsRow : OpenClaim := { program := "ytccajagfgdchlaa", sum := "99f52fe8bfeab3b63c89c69afe5cf9b53f3d99c849856194750784fab2673ae0", func := "pavane/pavanelaw01.OctetKeeps", spec := "octetKeeps", apart := false }
def OctetKeepsSaid : Prop := octetKeepsRow.holds Try.pinned (OpenSpec.ofChange octetKeepsSpec)

/-- ITS FALSE NEIGHBOUR: 'it returns false'. Refute it at one input. -/
def octetKeepsWrong : ChangeSpec := { name := "octetKeeps", fn := fun _ => fun
  | [d1, d2] => { results := [.lit (.bool false)], args := [d1, d2] }
  | _ => none }
def OctetKeepsWrongFalsely : Prop := octetKeepsRow.holds Try.pinned (OpenSpec.ofChange octetKeepsWrong)

/-- 'pavanelaw23.WorkOnce': WHATEVER THE INPUT: true; the input reads as it did. -/
def workOnceSpec : ChangeSpec := { name := "workOnce", fn := fun _ => fun
  | [d1, d2, d3] => { results := [.lit (.bool true)], args := [d1, d2, d3] }
  | _ => none }
def workOnceRow : OpenClaim := { program := "ytccajagfgdchlaa", sum := "99f52fe8bfeab3b63c89c69afe5cf9b53f3d99c849856194750784fab2673ae0", func := "pavane/pavanelaw23.WorkOnce", spec := "workOnce", unfollowed := true, recurses := true, apart := false }
def WorkOnceSaid : Prop := workOnceRow.holds Try.pinned (OpenSpec.ofChange workOnceSpec)

/-- ITS FALSE NEIGHBOUR: 'it returns false'. Refute it at one input. -/
def workOnceWrong : ChangeSpec := { name := "workOnce", fn := fun _ => fun
  | [d1, d2, d3] => { results := [.lit (.bool false)], args := [d1, d2, d3] }
  | _ => none }
def WorkOnceWrongFalsely : Prop := workOnceRow.holds Try.pinned (OpenSpec.ofChange workOnceWrong)

/-- 'pavanelaw23.WorkKeeps': WHATEVER THE INPUT: true; the input reads as it did. -/
def workKeepsSpec : ChangeSpec := { name := "workKeeps", fn := fun _ => fun
  | [d1, d2] => { results := [.lit (.bool true)], args := [d1, d2] }
  | _ => none }
def workKeepsRow : OpenClaim := { program := "ytccajagfgdchlaa", sum := "99f52fe8bfeab3b63c89c69afe5cf9b53f3d99c849856194750784fab2673ae0", func := "pavane/pavanelaw23.WorkKeeps", spec := "workKeeps", unfollowed := true, recurses := true, apart := false }
def WorkKeepsSaid : Prop := workKeepsRow.holds Try.pinned (OpenSpec.ofChange workKeepsSpec)

/-- ITS FALSE NEIGHBOUR: 'it returns false'. Refute it at one input. -/
def workKeepsWrong : ChangeSpec := { name := "workKeeps", fn := fun _ => fun
  | [d1, d2] => { results := [.lit (.bool false)], args := [d1, d2] }
  | _ => none }
def WorkKeepsWrongFalsely : Prop := workKeepsRow.holds Try.pinned (OpenSpec.ofChange workKeepsWrong)

/-- 'pavanelaw01.OctetBack': WHATEVER THE INPUT: true; the input reads as it did. -/
def octetBackSpec : ChangeSpec := { name := "octetBack", fn := fun _ => fun
  | [d1, d2] => { results := [.lit (.bool true)], args := [d1, d2] }
  | _ => none }
def octetBackRow : OpenClaim := { program := "ytccajagfgdchlaa", sum := "99f52fe8bfeab3b63c89c69afe5cf9b53f3d99c849856194750784fab2673ae0", func := "pavane/pavanelaw01.OctetBack", spec := "octetBack", apart := false }
def OctetBackSaid : Prop := octetBackRow.holds Try.pinned (OpenSpec.ofChange octetBackSpec)

/-- ITS FALSE NEIGHBOUR: 'it returns false'. Refute it at one input. -/
def octetBackWrong : ChangeSpec := { name := "octetBack", fn := fun _ => fun
  | [d1, d2] => { results := [.lit (.bool false)], args := [d1, d2] }
  | _ => none }
def OctetBackWrongFalsely : Prop := octetBackRow.holds Try.pinned (OpenSpec.ofChange octetBackWrong)

/-- 'pavanelaw01.OctetReads': WHATEVER THE INPUT: true; the input reads as it did. -/
def octetReadsSpec : ChangeSpec := { name := "octetReads", fn := fun _ => fun
  | [d1, d2] => { results := [.lit (.bool true)], args := [d1, d2] }
  | _ => none }
def octetReadsRow : OpenClaim := { program := "ytccajagfgdchlaa", sum := "99f52fe8bfeab3b63c89c69afe5cf9b53f3d99c849856194750784fab2673ae0", func := "pavane/pavanelaw01.OctetReads", spec := "octetReads", apart := false }
def OctetReadsSaid : Prop := octetReadsRow.holds Try.pinned (OpenSpec.ofChange octetReadsSpec)

/-- ITS FALSE NEIGHBOUR: 'it returns false'. Refute it at one input. -/
def octetReadsWrong : ChangeSpec := { name := "octetReads", fn := fun _ => fun
  | [d1, d2] => { results := [.lit (.bool false)], args := [d1, d2] }
  | _ => none }
def OctetReadsWrongFalsely : Prop := octetReadsRow.holds Try.pinned (OpenSpec.ofChange octetReadsWrong)

/-- 'pavanelaw01.OctetShort': WHATEVER THE INPUT: true; the input reads as it did. -/
def octetShortSpec : ChangeSpec := { name := "octetShort", fn := fun _ => fun
  | [d1, d2, d3] => { results := [.lit (.bool true)], args := [d1, d2, d3] }
  | _ => none }
def octetShortRow : OpenClaim := { program := "ytccajagfgdchlaa", sum := "99f52fe8bfeab3b63c89c69afe5cf9b53f3d99c849856194750784fab2673ae0", func := "pavane/pavanelaw01.OctetShort", spec := "octetShort", apart := false }
def OctetShortSaid : Prop := octetShortRow.holds Try.pinned (OpenSpec.ofChange octetShortSpec)

/-- ITS FALSE NEIGHBOUR: 'it returns false'. Refute it at one input. -/
def octetShortWrong : ChangeSpec := { name := "octetShort", fn := fun _ => fun
  | [d1, d2, d3] => { results := [.lit (.bool false)], args := [d1, d2, d3] }
  | _ => none }
def OctetShortWrongFalsely : Prop := octetShortRow.holds Try.pinned (OpenSpec.ofChange octetShortWrong)

/-- 'pavanelaw23.WorkBytes': WHATEVER THE INPUT: true; the input reads as it did. -/
def workBytesSpec : ChangeSpec := { name := "workBytes", fn := fun _ => fun
  | [d1, d2] => { results := [.lit (.bool true)], args := [d1, d2] }
  | _ => none }
def workBytesRow : OpenClaim := { program := "ytccajagfgdchlaa", sum := "99f52fe8bfeab3b63c89c69afe5cf9b53f3d99c849856194750784fab2673ae0", func := "pavane/pavanelaw23.WorkBytes", spec := "workBytes", unfollowed := true, recurses := true, apart := false }
def WorkBytesSaid : Prop := workBytesRow.holds Try.pinned (OpenSpec.ofChange workBytesSpec)

/-- ITS FALSE NEIGHBOUR: 'it returns false'. Refute it at one input. -/
def workBytesWrong : ChangeSpec := { name := "workBytes", fn := fun _ => fun
  | [d1, d2] => { results := [.lit (.bool false)], args := [d1, d2] }
  | _ => none }
def WorkBytesWrongFalsely : Prop := workBytesRow.holds Try.pinned (OpenSpec.ofChange workBytesWrong)

/-- 'pavanelaw23.WorkFirst': WHATEVER THE INPUT: true; the input reads as it did. -/
def workFirstSpec : ChangeSpec := { name := "workFirst", fn := fun _ => fun
  | [d1, d2] => { results := [.lit (.bool true)], args := [d1, d2] }
  | _ => none }
def workFirstRow : OpenClaim := { program := "ytccajagfgdchlaa", sum := "99f52fe8bfeab3b63c89c69afe5cf9b53f3d99c849856194750784fab2673ae0", func := "pavane/pavanelaw23.WorkFirst", spec := "workFirst", unfollowed := true, recurses := true, apart := false }
def WorkFirstSaid : Prop := workFirstRow.holds Try.pinned (OpenSpec.ofChange workFirstSpec)

/-- ITS FALSE NEIGHBOUR: 'it returns false'. Refute it at one input. -/
def workFirstWrong : ChangeSpec := { name := "workFirst", fn := fun _ => fun
  | [d1, d2] => { results := [.lit (.bool false)], args := [d1, d2] }
  | _ => none }
def WorkFirstWrongFalsely : Prop := workFirstRow.holds Try.pinned (OpenSpec.ofChange workFirstWrong)

/- THE SECOND FORM. 'bulk': how many values and letters a reading holds, each counted each time it is reached (what is shared counts as often as it is met; a slice's spare places count too). A statement '..UptoSaid' is the law's where the arguments, and the package variables that the reading takes, are together of bulk at most 1048576: NARROWER than '..Said'. Prove '..Said' where nothing that the law and all that it calls make is longer than what came in: it says more and counts as full. Else prove '..UptoSaid'. A law counts once. -/
mutual
def uptoBulk {H : Type} : DataW H → Nat
  | .lit (.string bytes) => bytes.length + 1
  | .lit _ => 1
  | .nil => 1
  | .ptr d => uptoBulk d + 1
  | .slice elems spare => uptoBulkAll elems + uptoBulkAll spare + 1
  | .agg parts => uptoBulkAll parts + 1
  | .iface _ d => uptoBulk d + 1
  | .map entries => uptoBulkEntries entries + 1
  | .held _ => 1
def uptoBulkAll {H : Type} : List (DataW H) → Nat
  | [] => 0
  | d :: r => uptoBulk d + uptoBulkAll r
def uptoBulkEntries {H : Type} : List (Lit × DataW H) → Nat
  | [] => 0
  | x :: r => uptoBulkEntry x + uptoBulkEntries r
def uptoBulkEntry {H : Type} : Lit × DataW H → Nat
  | (.string bytes, d) => bytes.length + uptoBulk d + 1
  | (_, d) => uptoBulk d + 1
 end
def uptoSmall : (H : Type) → List (DataW H) → Bool := fun _ ds => decide (uptoBulkAll ds ≤ 1048576)
def OpenSpec.upto (s : _root_.Go.ChangeSpec) : _root_.Go.OpenSpec := { _root_.Go.OpenSpec.ofChange s with cond := some uptoSmall }

/-- 'pavanelaw01.OctetPuts', WHERE WHAT IT READS IS OF BULK AT MOST 1048576: true; the input reads as it did. -/
def octetPutsUptoRow : OpenClaim := { program := "ytccajagfgdchlaa", sum := "99f52fe8bfeab3b63c89c69afe5cf9b53f3d99c849856194750784fab2673ae0", func := "pavane/pavanelaw01.OctetPuts", spec := "octetPuts", apart := false, narrowed := true }
def OctetPutsUptoSaid : Prop := octetPutsUptoRow.holds Try.pinned (OpenSpec.upto octetPutsSpec)

/-- 'pavanelaw23.WorkTries', WHERE WHAT IT READS IS OF BULK AT MOST 1048576: true; the input reads as it did. -/
def workTriesUptoRow : OpenClaim := { program := "ytccajagfgdchlaa", sum := "99f52fe8bfeab3b63c89c69afe5cf9b53f3d99c849856194750784fab2673ae0", func := "pavane/pavanelaw23.WorkTries", spec := "workTries", unfollowed := true, recurses := true, apart := false, narrowed := true }
def WorkTriesUptoSaid : Prop := workTriesUptoRow.holds Try.pinned (OpenSpec.upto workTriesSpec)

/-- 'pavanelaw01.OctetKeeps', WHERE WHAT IT READS IS OF BULK AT MOST 1048576: true; the input reads as it did. -/
def octetKeepsUptoRow : OpenClaim := { program := "ytccajagfgdchlaa", sum := "99f52fe8bfeab3b63c89c69afe5cf9b53f3d99c849856194750784fab2673ae0", func := "pavane/pavanelaw01.OctetKeeps", spec := "octetKeeps", apart := false, narrowed := true }
def OctetKeepsUptoSaid : Prop := octetKeepsUptoRow.holds Try.pinned (OpenSpec.upto octetKeepsSpec)

/-- 'pavanelaw23.WorkOnce', WHERE WHAT IT READS IS OF BULK AT MOST 1048576: true; the input reads as it did. -/
def workOnceUptoRow : OpenClaim := { program := "ytccajagfgdchlaa", sum := "99f52fe8bfeab3b63c89c69afe5cf9b53f3d99c849856194750784fab2673ae0", func := "pavane/pavanelaw23.WorkOnce", spec := "workOnce", unfollowed := true, recurses := true, apart := false, narrowed := true }
def WorkOnceUptoSaid : Prop := workOnceUptoRow.holds Try.pinned (OpenSpec.upto workOnceSpec)

/-- 'pavanelaw23.WorkKeeps', WHERE WHAT IT READS IS OF BULK AT MOST 1048576: true; the input reads as it did. -/
def workKeepsUptoRow : OpenClaim := { program := "ytccajagfgdchlaa", sum := "99f52fe8bfeab3b63c89c69afe5cf9b53f3d99c849856194750784fab2673ae0", func := "pavane/pavanelaw23.WorkKeeps", spec := "workKeeps", unfollowed := true, recurses := true, apart := false, narrowed := true }
def WorkKeepsUptoSaid : Prop := workKeepsUptoRow.holds Try.pinned (OpenSpec.upto workKeepsSpec)

/-- 'pavanelaw01.OctetBack', WHERE WHAT IT READS IS OF BULK AT MOST 1048576: true; the input reads as it did. -/
def octetBackUptoRow : OpenClaim := { program := "ytccajagfgdchlaa", sum := "99f52fe8bfeab3b63c89c69afe5cf9b53f3d99c849856194750784fab2673ae0", func := "pavane/pavanelaw01.OctetBack", spec := "octetBack", apart := false, narrowed := true }
def OctetBackUptoSaid : Prop := octetBackUptoRow.holds Try.pinned (OpenSpec.upto octetBackSpec)

/-- 'pavanelaw01.OctetReads', WHERE WHAT IT READS IS OF BULK AT MOST 1048576: true; the input reads as it did. -/
def octetReadsUptoRow : OpenClaim := { program := "ytccajagfgdchlaa", sum := "99f52fe8bfeab3b63c89c69afe5cf9b53f3d99c849856194750784fab2673ae0", func := "pavane/pavanelaw01.OctetReads", spec := "octetReads", apart := false, narrowed := true }
def OctetReadsUptoSaid : Prop := octetReadsUptoRow.holds Try.pinned (OpenSpec.upto octetReadsSpec)

/-- 'pavanelaw01.OctetShort', WHERE WHAT IT READS IS OF BULK AT MOST 1048576: true; the input reads as it did. -/
def octetShortUptoRow : OpenClaim := { program := "ytccajagfgdchlaa", sum := "99f52fe8bfeab3b63c89c69afe5cf9b53f3d99c849856194750784fab2673ae0", func := "pavane/pavanelaw01.OctetShort", spec := "octetShort", apart := false, narrowed := true }
def OctetShortUptoSaid : Prop := octetShortUptoRow.holds Try.pinned (OpenSpec.upto octetShortSpec)

/-- 'pavanelaw23.WorkBytes', WHERE WHAT IT READS IS OF BULK AT MOST 1048576: true; the input reads as it did. -/
def workBytesUptoRow : OpenClaim := { program := "ytccajagfgdchlaa", sum := "99f52fe8bfeab3b63c89c69afe5cf9b53f3d99c849856194750784fab2673ae0", func := "pavane/pavanelaw23.WorkBytes", spec := "workBytes", unfollowed := true, recurses := true, apart := false, narrowed := true }
def WorkBytesUptoSaid : Prop := workBytesUptoRow.holds Try.pinned (OpenSpec.upto workBytesSpec)

/-- 'pavanelaw23.WorkFirst', WHERE WHAT IT READS IS OF BULK AT MOST 1048576: true; the input reads as it did. -/
def workFirstUptoRow : OpenClaim := { program := "ytccajagfgdchlaa", sum := "99f52fe8bfeab3b63c89c69afe5cf9b53f3d99c849856194750784fab2673ae0", func := "pavane/pavanelaw23.WorkFirst", spec := "workFirst", unfollowed := true, recurses := true, apart := false, narrowed := true }
def WorkFirstUptoSaid : Prop := workFirstUptoRow.holds Try.pinned (OpenSpec.upto workFirstSpec)

end Rows
end Go.Proofs.Ytccajagfgdchlaa
