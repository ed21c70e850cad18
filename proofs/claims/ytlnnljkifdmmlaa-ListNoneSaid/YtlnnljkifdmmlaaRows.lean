/-
  No cell of these rows narrows 'for every input' (looked for: loops, veiled, ifaces, maps, wideKeys, modest, calm, conditions, laid).
  DERIVED. THE GIVEN ROWS OF THIS SEAT. 8 by the template 'for every input the law returns true; each argument reads behind the call as it read before'; 0 by the template 'total and deterministic' (their statements: YtlnnljkifdmmlaaTotals.lean).
  GIVEN WITH THE SEED: the statements are not yours to turn. If you find one false, say at which input.
  Laid BY PROGRAM, IN A SANDBOX (cutbox-rows.mjs): the forced cells as the released guide's own fill.sh prints them over the translation e980d3709c7f353b… (all of the seat's roots in one cut). By AI agents, Wed Nov 11 2026. No macro, syntax, notation, axiom, sorry.
-/
import Derived.Test.YtlnnljkifdmmlaaChecked
import GoSem.Claim
import GoSem.ClaimJoined
import GoSem.ClaimMapViews
import Derived.JoinedTies
import Derived.KernelRfl
namespace Go.Proofs.Ytlnnljkifdmmlaa
/- THE CELL 'sum', in the pinned program and in every row, IS THE sha256 OF THE DUMP (.gsa) THAT YtlnnljkifdmmlaaProg.lean LOADS. Nothing in Lean hashes anything: it is a label: what it is worth is what the hold of that sum in a sandbox is worth. -/
noncomputable def Try.pinned : Pinned := { name := "ytlnnljkifdmmlaa", sum := "e980d3709c7f353b6868d3d1632ec5903b6948f1f347a261810f1608f40c4f6e", checked := Try.checked }
namespace Rows
def none {H : Type} : Left H := { results := [], args := [] }

/-- 'scriniumlaw10.ListSets': WHATEVER THE INPUT: true; the input reads as it did. -/
def listSetsSpec : ChangeSpec := { name := "listSets", fn := fun _ => fun
  | [d1, d2, d3] => { results := [.lit (.bool true)], args := [d1, d2, d3] }
  | _ => none }
def listSetsRow : OpenClaim := { program := "ytlnnljkifdmmlaa", sum := "e980d3709c7f353b6868d3d1632ec5903b6948f1f347a261810f1608f40c4f6e", func := "scrinium/scriniumlaw10.ListSets", spec := "listSets", unfollowed := true, recurses := true, apart := false }
def ListSetsSaid : Prop := listSetsRow.holds Try.pinned (OpenSpec.ofChange listSetsSpec)

/-- ITS FALSE NEIGHBOUR: 'it returns false'. Refute it at one input. -/
def listSetsWrong : ChangeSpec := { name := "listSets", fn := fun _ => fun
  | [d1, d2, d3] => { results := [.lit (.bool false)], args := [d1, d2, d3] }
  | _ => none }
def ListSetsWrongFalsely : Prop := listSetsRow.holds Try.pinned (OpenSpec.ofChange listSetsWrong)

/-- 'scriniumlaw10.ListMany': WHATEVER THE INPUT: true; the input reads as it did. -/
def listManySpec : ChangeSpec := { name := "listMany", fn := fun _ => fun
  | [d1, d2] => { results := [.lit (.bool true)], args := [d1, d2] }
  | _ => none }
def listManyRow : OpenClaim := { program := "ytlnnljkifdmmlaa", sum := "e980d3709c7f353b6868d3d1632ec5903b6948f1f347a261810f1608f40c4f6e", func := "scrinium/scriniumlaw10.ListMany", spec := "listMany", unfollowed := true, recurses := true, apart := false }
def ListManySaid : Prop := listManyRow.holds Try.pinned (OpenSpec.ofChange listManySpec)

/-- ITS FALSE NEIGHBOUR: 'it returns false'. Refute it at one input. -/
def listManyWrong : ChangeSpec := { name := "listMany", fn := fun _ => fun
  | [d1, d2] => { results := [.lit (.bool false)], args := [d1, d2] }
  | _ => none }
def ListManyWrongFalsely : Prop := listManyRow.holds Try.pinned (OpenSpec.ofChange listManyWrong)

/-- 'scriniumlaw10.ListNone': WHATEVER THE INPUT: true; the input reads as it did. -/
def listNoneSpec : ChangeSpec := { name := "listNone", fn := fun _ => fun
  | [d1, d2, d3] => { results := [.lit (.bool true)], args := [d1, d2, d3] }
  | _ => none }
def listNoneRow : OpenClaim := { program := "ytlnnljkifdmmlaa", sum := "e980d3709c7f353b6868d3d1632ec5903b6948f1f347a261810f1608f40c4f6e", func := "scrinium/scriniumlaw10.ListNone", spec := "listNone", unfollowed := true, recurses := true, apart := false }
def ListNoneSaid : Prop := listNoneRow.holds Try.pinned (OpenSpec.ofChange listNoneSpec)

/-- ITS FALSE NEIGHBOUR: 'it returns false'. Refute it at one input. -/
def listNoneWrong : ChangeSpec := { name := "listNone", fn := fun _ => fun
  | [d1, d2, d3] => { results := [.lit (.bool false)], args := [d1, d2, d3] }
  | _ => none }
def ListNoneWrongFalsely : Prop := listNoneRow.holds Try.pinned (OpenSpec.ofChange listNoneWrong)

/-- 'scriniumlaw11.TableMany': WHATEVER THE INPUT: true; the input reads as it did. -/
def tableManySpec : ChangeSpec := { name := "tableMany", fn := fun _ => fun
  | [d] => { results := [.lit (.bool true)], args := [d] }
  | _ => none }
def tableManyRow : OpenClaim := { program := "ytlnnljkifdmmlaa", sum := "e980d3709c7f353b6868d3d1632ec5903b6948f1f347a261810f1608f40c4f6e", func := "scrinium/scriniumlaw11.TableMany", spec := "tableMany", unfollowed := true, recurses := true, apart := false }
def TableManySaid : Prop := tableManyRow.holds Try.pinned (OpenSpec.ofChange tableManySpec)

/-- ITS FALSE NEIGHBOUR: 'it returns false'. Refute it at one input. -/
def tableManyWrong : ChangeSpec := { name := "tableMany", fn := fun _ => fun
  | [d] => { results := [.lit (.bool false)], args := [d] }
  | _ => none }
def TableManyWrongFalsely : Prop := tableManyRow.holds Try.pinned (OpenSpec.ofChange tableManyWrong)

/-- 'scriniumlaw10.ListBack': WHATEVER THE INPUT: true; the input reads as it did. -/
def listBackSpec : ChangeSpec := { name := "listBack", fn := fun _ => fun
  | [d1, d2, d3] => { results := [.lit (.bool true)], args := [d1, d2, d3] }
  | _ => none }
def listBackRow : OpenClaim := { program := "ytlnnljkifdmmlaa", sum := "e980d3709c7f353b6868d3d1632ec5903b6948f1f347a261810f1608f40c4f6e", func := "scrinium/scriniumlaw10.ListBack", spec := "listBack", unfollowed := true, recurses := true, apart := false }
def ListBackSaid : Prop := listBackRow.holds Try.pinned (OpenSpec.ofChange listBackSpec)

/-- ITS FALSE NEIGHBOUR: 'it returns false'. Refute it at one input. -/
def listBackWrong : ChangeSpec := { name := "listBack", fn := fun _ => fun
  | [d1, d2, d3] => { results := [.lit (.bool false)], args := [d1, d2, d3] }
  | _ => none }
def ListBackWrongFalsely : Prop := listBackRow.holds Try.pinned (OpenSpec.ofChange listBackWrong)

/-- 'scriniumlaw11.TableBack': WHATEVER THE INPUT: true; the input reads as it did. -/
def tableBackSpec : ChangeSpec := { name := "tableBack", fn := fun _ => fun
  | [d1, d2] => { results := [.lit (.bool true)], args := [d1, d2] }
  | _ => none }
def tableBackRow : OpenClaim := { program := "ytlnnljkifdmmlaa", sum := "e980d3709c7f353b6868d3d1632ec5903b6948f1f347a261810f1608f40c4f6e", func := "scrinium/scriniumlaw11.TableBack", spec := "tableBack", unfollowed := true, recurses := true, apart := false }
def TableBackSaid : Prop := tableBackRow.holds Try.pinned (OpenSpec.ofChange tableBackSpec)

/-- ITS FALSE NEIGHBOUR: 'it returns false'. Refute it at one input. -/
def tableBackWrong : ChangeSpec := { name := "tableBack", fn := fun _ => fun
  | [d1, d2] => { results := [.lit (.bool false)], args := [d1, d2] }
  | _ => none }
def TableBackWrongFalsely : Prop := tableBackRow.holds Try.pinned (OpenSpec.ofChange tableBackWrong)

/-- 'scriniumlaw11.TableKeeps': WHATEVER THE INPUT: true; the input reads as it did. -/
def tableKeepsSpec : ChangeSpec := { name := "tableKeeps", fn := fun _ => fun
  | [d] => { results := [.lit (.bool true)], args := [d] }
  | _ => none }
def tableKeepsRow : OpenClaim := { program := "ytlnnljkifdmmlaa", sum := "e980d3709c7f353b6868d3d1632ec5903b6948f1f347a261810f1608f40c4f6e", func := "scrinium/scriniumlaw11.TableKeeps", spec := "tableKeeps", unfollowed := true, recurses := true, apart := false }
def TableKeepsSaid : Prop := tableKeepsRow.holds Try.pinned (OpenSpec.ofChange tableKeepsSpec)

/-- ITS FALSE NEIGHBOUR: 'it returns false'. Refute it at one input. -/
def tableKeepsWrong : ChangeSpec := { name := "tableKeeps", fn := fun _ => fun
  | [d] => { results := [.lit (.bool false)], args := [d] }
  | _ => none }
def TableKeepsWrongFalsely : Prop := tableKeepsRow.holds Try.pinned (OpenSpec.ofChange tableKeepsWrong)

/-- 'scriniumlaw11.TableRefuses': WHATEVER THE INPUT: true; the input reads as it did. -/
def tableRefusesSpec : ChangeSpec := { name := "tableRefuses", fn := fun _ => fun
  | [d1, d2, d3] => { results := [.lit (.bool true)], args := [d1, d2, d3] }
  | _ => none }
def tableRefusesRow : OpenClaim := { program := "ytlnnljkifdmmlaa", sum := "e980d3709c7f353b6868d3d1632ec5903b6948f1f347a261810f1608f40c4f6e", func := "scrinium/scriniumlaw11.TableRefuses", spec := "tableRefuses", unfollowed := true, recurses := true, apart := false }
def TableRefusesSaid : Prop := tableRefusesRow.holds Try.pinned (OpenSpec.ofChange tableRefusesSpec)

/-- ITS FALSE NEIGHBOUR: 'it returns false'. Refute it at one input. -/
def tableRefusesWrong : ChangeSpec := { name := "tableRefuses", fn := fun _ => fun
  | [d1, d2, d3] => { results := [.lit (.bool false)], args := [d1, d2, d3] }
  | _ => none }
def TableRefusesWrongFalsely : Prop := tableRefusesRow.holds Try.pinned (OpenSpec.ofChange tableRefusesWrong)

/- THE SECOND FORM. 'bulk': how many values and letters a reading holds, each counted each time it is reached (what is shared counts as often as it is met; a slice's spare places count too). A statement '..UptoSaid' is the law's where the arguments, and the package variables that the reading takes, are together of bulk at most 1048576: NARROWER than '..Said'. Prove '..Said' where nothing that the law and all that it calls make is longer than what came in: it says more and counts as full. Else prove '..UptoSaid'. A law counts once. -/
mutual
def uptoBulk {H : Type} : DataW H → Nat
  | .lit (.string bytes) => bytes.length + 1
  | .lit _ => 1
  | .nil => 1
  | .ptr d => uptoBulk d + 1
  | .slice elems spare => uptoBulkAll elems + uptoBulkAll spare + 1
  | .agg parts => uptoBulkAll parts + 1
  | .iface _ d => uptoBulk d + 1
  | .map entries => uptoBulkEntries entries + 1
  | .held _ => 1
def uptoBulkAll {H : Type} : List (DataW H) → Nat
  | [] => 0
  | d :: r => uptoBulk d + uptoBulkAll r
def uptoBulkEntries {H : Type} : List (Lit × DataW H) → Nat
  | [] => 0
  | x :: r => uptoBulkEntry x + uptoBulkEntries r
def uptoBulkEntry {H : Type} : Lit × DataW H → Nat
  | (.string bytes, d) => bytes.length + uptoBulk d + 1
  | (_, d) => uptoBulk d + 1
 end
def uptoSmall : (H : Type) → List (DataW H) → Bool := fun _ ds => decide (uptoBulkAll ds ≤ 1048576)
def OpenSpec.upto (s : _root_.Go.ChangeSpec) : _root_.Go.OpenSpec := { _root_.Go.OpenSpec.ofChange s with cond := some uptoSmall }

/-- 'scriniumlaw10.ListSets', WHERE WHAT IT READS IS OF BULK AT MOST 1048576: true; the input reads as it did. -/
def listSetsUptoRow : OpenClaim := { program := "ytlnnljkifdmmlaa", sum := "e980d3709c7f353b6868d3d1632ec5903b6948f1f347a261810f1608f40c4f6e", func := "scrinium/scriniumlaw10.ListSets", spec := "listSets", unfollowed := true, recurses := true, apart := false, narrowed := true }
def ListSetsUptoSaid : Prop := listSetsUptoRow.holds Try.pinned (OpenSpec.upto listSetsSpec)

/-- 'scriniumlaw10.ListMany', WHERE WHAT IT READS IS OF BULK AT MOST 1048576: true; the input reads as it did. -/
def listManyUptoRow : OpenClaim := { program := "ytlnnljkifdmmlaa", sum := "e980d3709c7f353b6868d3d1632ec5903b6948f1f347a261810f1608f40c4f6e", func := "scrinium/scriniumlaw10.ListMany", spec := "listMany", unfollowed := true, recurses := true, apart := false, narrowed := true }
def ListManyUptoSaid : Prop := listManyUptoRow.holds Try.pinned (OpenSpec.upto listManySpec)

/-- 'scriniumlaw10.ListNone', WHERE WHAT IT READS IS OF BULK AT MOST 1048576: true; the input reads as it did. -/
def listNoneUptoRow : OpenClaim := { program := "ytlnnljkifdmmlaa", sum := "e980d3709c7f353b6868d3d1632ec5903b6948f1f347a261810f1608f40c4f6e", func := "scrinium/scriniumlaw10.ListNone", spec := "listNone", unfollowed := true, recurses := true, apart := false, narrowed := true }
def ListNoneUptoSaid : Prop := listNoneUptoRow.holds Try.pinned (OpenSpec.upto listNoneSpec)

/-- 'scriniumlaw11.TableMany', WHERE WHAT IT READS IS OF BULK AT MOST 1048576: true; the input reads as it did. -/
def tableManyUptoRow : OpenClaim := { program := "ytlnnljkifdmmlaa", sum := "e980d3709c7f353b6868d3d1632ec5903b6948f1f347a261810f1608f40c4f6e", func := "scrinium/scriniumlaw11.TableMany", spec := "tableMany", unfollowed := true, recurses := true, apart := false, narrowed := true }
def TableManyUptoSaid : Prop := tableManyUptoRow.holds Try.pinned (OpenSpec.upto tableManySpec)

/-- 'scriniumlaw10.ListBack', WHERE WHAT IT READS IS OF BULK AT MOST 1048576: true; the input reads as it did. -/
def listBackUptoRow : OpenClaim := { program := "ytlnnljkifdmmlaa", sum := "e980d3709c7f353b6868d3d1632ec5903b6948f1f347a261810f1608f40c4f6e", func := "scrinium/scriniumlaw10.ListBack", spec := "listBack", unfollowed := true, recurses := true, apart := false, narrowed := true }
def ListBackUptoSaid : Prop := listBackUptoRow.holds Try.pinned (OpenSpec.upto listBackSpec)

/-- 'scriniumlaw11.TableBack', WHERE WHAT IT READS IS OF BULK AT MOST 1048576: true; the input reads as it did. -/
def tableBackUptoRow : OpenClaim := { program := "ytlnnljkifdmmlaa", sum := "e980d3709c7f353b6868d3d1632ec5903b6948f1f347a261810f1608f40c4f6e", func := "scrinium/scriniumlaw11.TableBack", spec := "tableBack", unfollowed := true, recurses := true, apart := false, narrowed := true }
def TableBackUptoSaid : Prop := tableBackUptoRow.holds Try.pinned (OpenSpec.upto tableBackSpec)

/-- 'scriniumlaw11.TableKeeps', WHERE WHAT IT READS IS OF BULK AT MOST 1048576: true; the input reads as it did. -/
def tableKeepsUptoRow : OpenClaim := { program := "ytlnnljkifdmmlaa", sum := "e980d3709c7f353b6868d3d1632ec5903b6948f1f347a261810f1608f40c4f6e", func := "scrinium/scriniumlaw11.TableKeeps", spec := "tableKeeps", unfollowed := true, recurses := true, apart := false, narrowed := true }
def TableKeepsUptoSaid : Prop := tableKeepsUptoRow.holds Try.pinned (OpenSpec.upto tableKeepsSpec)

/-- 'scriniumlaw11.TableRefuses', WHERE WHAT IT READS IS OF BULK AT MOST 1048576: true; the input reads as it did. -/
def tableRefusesUptoRow : OpenClaim := { program := "ytlnnljkifdmmlaa", sum := "e980d3709c7f353b6868d3d1632ec5903b6948f1f347a261810f1608f40c4f6e", func := "scrinium/scriniumlaw11.TableRefuses", spec := "tableRefuses", unfollowed := true, recurses := true, apart := false, narrowed := true }
def TableRefusesUptoSaid : Prop := tableRefusesUptoRow.holds Try.pinned (OpenSpec.upto tableRefusesSpec)

end Rows
end Go.Proofs.Ytlnnljkifdmmlaa
