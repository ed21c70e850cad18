/-
  No cell of these rows narrows 'for every input' (looked for: loops, veiled, ifaces, maps, wideKeys, modest, calm, conditions, laid).
  DERIVED. THE GIVEN ROWS OF THIS SEAT. 3 by the template 'for every input the law returns true; each argument reads behind the call as it read before'; 0 by the template 'total and deterministic' (their statements: YtcdmebjggdhhdaaTotals.lean).
  GIVEN WITH THE SEED: the statements are not yours to turn. If you find one false, say at which input.
  Laid BY PROGRAM, IN A SANDBOX (cutbox-rows.mjs): the forced cells as the released guide's own fill.sh prints them over the translation 3544603dbdace257… (all of the seat's roots in one cut). By AI agents, Wed Nov 11 2026. No macro, syntax, notation, axiom, sorry.
-/
import Derived.Test.YtcdmebjggdhhdaaChecked
import GoSem.Claim
import GoSem.ClaimJoined
import GoSem.ClaimMapViews
import Derived.JoinedTies
import Derived.KernelRfl
namespace Go.Proofs.Ytcdmebjggdhhdaa
/- THE CELL 'sum', in the pinned program and in every row, IS THE sha256 OF THE DUMP (.gsa) THAT YtcdmebjggdhhdaaProg.lean LOADS. Nothing in Lean hashes anything: it is a label: what it is worth is what the hold of that sum in a sandbox is worth. -/
noncomputable def Try.pinned : Pinned := { name := "ytcdmebjggdhhdaa", sum := "3544603dbdace25759a025abfabbab8aba52f2f3d7e4bdf28930dcc8ebe51c86", checked := Try.checked }
namespace Rows
def none {H : Type} : Left H := { results := [], args := [] }

/-- 'scriniumlaw10.ListFront': WHATEVER THE INPUT: true; the input reads as it did. -/
def listFrontSpec : ChangeSpec := { name := "listFront", fn := fun _ => fun
  | [d1, d2, d3] => { results := [.lit (.bool true)], args := [d1, d2, d3] }
  | _ => none }
def listFrontRow : OpenClaim := { program := "ytcdmebjggdhhdaa", sum := "3544603dbdace25759a025abfabbab8aba52f2f3d7e4bdf28930dcc8ebe51c86", func := "scrinium/scriniumlaw10.ListFront", spec := "listFront", unfollowed := true, recurses := true, apart := false }
def ListFrontSaid : Prop := listFrontRow.holds Try.pinned (OpenSpec.ofChange listFrontSpec)

/-- ITS FALSE NEIGHBOUR: 'it returns false'. Refute it at one input. -/
def listFrontWrong : ChangeSpec := { name := "listFront", fn := fun _ => fun
  | [d1, d2, d3] => { results := [.lit (.bool false)], args := [d1, d2, d3] }
  | _ => none }
def ListFrontWrongFalsely : Prop := listFrontRow.holds Try.pinned (OpenSpec.ofChange listFrontWrong)

/-- 'scriniumlaw10.ListPlays': WHATEVER THE INPUT: true; the input reads as it did. -/
def listPlaysSpec : ChangeSpec := { name := "listPlays", fn := fun _ => fun
  | [d1, d2] => { results := [.lit (.bool true)], args := [d1, d2] }
  | _ => none }
def listPlaysRow : OpenClaim := { program := "ytcdmebjggdhhdaa", sum := "3544603dbdace25759a025abfabbab8aba52f2f3d7e4bdf28930dcc8ebe51c86", func := "scrinium/scriniumlaw10.ListPlays", spec := "listPlays", unfollowed := true, recurses := true, apart := false }
def ListPlaysSaid : Prop := listPlaysRow.holds Try.pinned (OpenSpec.ofChange listPlaysSpec)

/-- ITS FALSE NEIGHBOUR: 'it returns false'. Refute it at one input. -/
def listPlaysWrong : ChangeSpec := { name := "listPlays", fn := fun _ => fun
  | [d1, d2] => { results := [.lit (.bool false)], args := [d1, d2] }
  | _ => none }
def ListPlaysWrongFalsely : Prop := listPlaysRow.holds Try.pinned (OpenSpec.ofChange listPlaysWrong)

/-- 'scriniumlaw11.TablePlays': WHATEVER THE INPUT: true; the input reads as it did. -/
def tablePlaysSpec : ChangeSpec := { name := "tablePlays", fn := fun _ => fun
  | [d1, d2] => { results := [.lit (.bool true)], args := [d1, d2] }
  | _ => none }
def tablePlaysRow : OpenClaim := { program := "ytcdmebjggdhhdaa", sum := "3544603dbdace25759a025abfabbab8aba52f2f3d7e4bdf28930dcc8ebe51c86", func := "scrinium/scriniumlaw11.TablePlays", spec := "tablePlays", unfollowed := true, recurses := true, apart := false }
def TablePlaysSaid : Prop := tablePlaysRow.holds Try.pinned (OpenSpec.ofChange tablePlaysSpec)

/-- ITS FALSE NEIGHBOUR: 'it returns false'. Refute it at one input. -/
def tablePlaysWrong : ChangeSpec := { name := "tablePlays", fn := fun _ => fun
  | [d1, d2] => { results := [.lit (.bool false)], args := [d1, d2] }
  | _ => none }
def TablePlaysWrongFalsely : Prop := tablePlaysRow.holds Try.pinned (OpenSpec.ofChange tablePlaysWrong)

/- THE SECOND FORM. 'bulk': how many values and letters a reading holds, each counted each time it is reached (what is shared counts as often as it is met; a slice's spare places count too). A statement '..UptoSaid' is the law's where the arguments, and the package variables that the reading takes, are together of bulk at most 1048576: NARROWER than '..Said'. Prove '..Said' where nothing that the law and all that it calls make is longer than what came in: it says more and counts as full. Else prove '..UptoSaid'. A law counts once. -/
mutual
def uptoBulk {H : Type} : DataW H → Nat
  | .lit (.string bytes) => bytes.length + 1
  | .lit _ => 1
  | .nil => 1
  | .ptr d => uptoBulk d + 1
  | .slice elems spare => uptoBulkAll elems + uptoBulkAll spare + 1
  | .agg parts => uptoBulkAll parts + 1
  | .iface _ d => uptoBulk d + 1
  | .map entries => uptoBulkEntries entries + 1
  | .held _ => 1
def uptoBulkAll {H : Type} : List (DataW H) → Nat
  | [] => 0
  | d :: r => uptoBulk d + uptoBulkAll r
def uptoBulkEntries {H : Type} : List (Lit × DataW H) → Nat
  | [] => 0
  | x :: r => uptoBulkEntry x + uptoBulkEntries r
def uptoBulkEntry {H : Type} : Lit × DataW H → Nat
  | (.string bytes, d) => bytes.length + uptoBulk d + 1
  | (_, d) => uptoBulk d + 1
 end
def uptoSmall : (H : Type) → List (DataW H) → Bool := fun _ ds => decide (uptoBulkAll ds ≤ 1048576)
def OpenSpec.upto (s : _root_.Go.ChangeSpec) : _root_.Go.OpenSpec := { _root_.Go.OpenSpec.ofChange s with cond := some uptoSmall }

/-- 'scriniumlaw10.ListFront', WHERE WHAT IT READS IS OF BULK AT MOST 1048576: true; the input reads as it did. -/
def listFrontUptoRow : OpenClaim := { program := "ytcdmebjggdhhdaa", sum := "3544603dbdace25759a025abfabbab8aba52f2f3d7e4bdf28930dcc8ebe51c86", func := "scrinium/scriniumlaw10.ListFront", spec := "listFront", unfollowed := true, recurses := true, apart := false, narrowed := true }
def ListFrontUptoSaid : Prop := listFrontUptoRow.holds Try.pinned (OpenSpec.upto listFrontSpec)

/-- 'scriniumlaw10.ListPlays', WHERE WHAT IT READS IS OF BULK AT MOST 1048576: true; the input reads as it did. -/
def listPlaysUptoRow : OpenClaim := { program := "ytcdmebjggdhhdaa", sum := "3544603dbdace25759a025abfabbab8aba52f2f3d7e4bdf28930dcc8ebe51c86", func := "scrinium/scriniumlaw10.ListPlays", spec := "listPlays", unfollowed := true, recurses := true, apart := false, narrowed := true }
def ListPlaysUptoSaid : Prop := listPlaysUptoRow.holds Try.pinned (OpenSpec.upto listPlaysSpec)

/-- 'scriniumlaw11.TablePlays', WHERE WHAT IT READS IS OF BULK AT MOST 1048576: true; the input reads as it did. -/
def tablePlaysUptoRow : OpenClaim := { program := "ytcdmebjggdhhdaa", sum := "3544603dbdace25759a025abfabbab8aba52f2f3d7e4bdf28930dcc8ebe51c86", func := "scrinium/scriniumlaw11.TablePlays", spec := "tablePlays", unfollowed := true, recurses := true, apart := false, narrowed := true }
def TablePlaysUptoSaid : Prop := tablePlaysUptoRow.holds Try.pinned (OpenSpec.upto tablePlaysSpec)

end Rows
end Go.Proofs.Ytcdmebjggdhhdaa
