/-
  No cell of these rows narrows 'for every input' (looked for: loops, veiled, ifaces, maps, wideKeys, modest, calm, conditions, laid).
  DERIVED. THE GIVEN ROWS OF THIS SEAT. 7 by the template 'for every input the law returns true; each argument reads behind the call as it read before'; 0 by the template 'total and deterministic' (their statements: YtjfeocoengheaaaTotals.lean).
  GIVEN WITH THE SEED: the statements are not yours to turn. If you find one false, say at which input.
  Laid BY PROGRAM, IN A SANDBOX (cutbox-rows.mjs): the forced cells as the released guide's own fill.sh prints them over the translation 8e2f95c00bbd0e5e… (all of the seat's roots in one cut). By AI agents, Wed Nov 11 2026. No macro, syntax, notation, axiom, sorry.
-/
import Derived.Test.YtjfeocoengheaaaChecked
import GoSem.Claim
import GoSem.ClaimJoined
import GoSem.ClaimMapViews
import Derived.JoinedTies
import Derived.KernelRfl
namespace Go.Proofs.Ytjfeocoengheaaa
/- THE CELL 'sum', in the pinned program and in every row, IS THE sha256 OF THE DUMP (.gsa) THAT YtjfeocoengheaaaProg.lean LOADS. Nothing in Lean hashes anything: it is a label: what it is worth is what the hold of that sum in a sandbox is worth. -/
noncomputable def Try.pinned : Pinned := { name := "ytjfeocoengheaaa", sum := "8e2f95c00bbd0e5e7188246359bb7808a823b1d63549cea634f8d1faa788ad79", checked := Try.checked }
namespace Rows
def none {H : Type} : Left H := { results := [], args := [] }

/-- 'scriniumlaw8.BitsRanks': WHATEVER THE INPUT: true; the input reads as it did. -/
def bitsRanksSpec : ChangeSpec := { name := "bitsRanks", fn := fun _ => fun
  | [d1, d2, d3] => { results := [.lit (.bool true)], args := [d1, d2, d3] }
  | _ => none }
def bitsRanksRow : OpenClaim := { program := "ytjfeocoengheaaa", sum := "8e2f95c00bbd0e5e7188246359bb7808a823b1d63549cea634f8d1faa788ad79", func := "scrinium/scriniumlaw8.BitsRanks", spec := "bitsRanks", recurses := true, apart := false }
def BitsRanksSaid : Prop := bitsRanksRow.holds Try.pinned (OpenSpec.ofChange bitsRanksSpec)

/-- ITS FALSE NEIGHBOUR: 'it returns false'. Refute it at one input. -/
def bitsRanksWrong : ChangeSpec := { name := "bitsRanks", fn := fun _ => fun
  | [d1, d2, d3] => { results := [.lit (.bool false)], args := [d1, d2, d3] }
  | _ => none }
def BitsRanksWrongFalsely : Prop := bitsRanksRow.holds Try.pinned (OpenSpec.ofChange bitsRanksWrong)

/-- 'scriniumlaw8.BitsBack': WHATEVER THE INPUT: true; the input reads as it did. -/
def bitsBackSpec : ChangeSpec := { name := "bitsBack", fn := fun _ => fun
  | [d1, d2, d3] => { results := [.lit (.bool true)], args := [d1, d2, d3] }
  | _ => none }
def bitsBackRow : OpenClaim := { program := "ytjfeocoengheaaa", sum := "8e2f95c00bbd0e5e7188246359bb7808a823b1d63549cea634f8d1faa788ad79", func := "scrinium/scriniumlaw8.BitsBack", spec := "bitsBack", recurses := true, apart := false }
def BitsBackSaid : Prop := bitsBackRow.holds Try.pinned (OpenSpec.ofChange bitsBackSpec)

/-- ITS FALSE NEIGHBOUR: 'it returns false'. Refute it at one input. -/
def bitsBackWrong : ChangeSpec := { name := "bitsBack", fn := fun _ => fun
  | [d1, d2, d3] => { results := [.lit (.bool false)], args := [d1, d2, d3] }
  | _ => none }
def BitsBackWrongFalsely : Prop := bitsBackRow.holds Try.pinned (OpenSpec.ofChange bitsBackWrong)

/-- 'scriniumlaw8.BitsNone': WHATEVER THE INPUT: true; the input reads as it did. -/
def bitsNoneSpec : ChangeSpec := { name := "bitsNone", fn := fun _ => fun
  | [d1, d2, d3] => { results := [.lit (.bool true)], args := [d1, d2, d3] }
  | _ => none }
def bitsNoneRow : OpenClaim := { program := "ytjfeocoengheaaa", sum := "8e2f95c00bbd0e5e7188246359bb7808a823b1d63549cea634f8d1faa788ad79", func := "scrinium/scriniumlaw8.BitsNone", spec := "bitsNone", recurses := true, apart := false }
def BitsNoneSaid : Prop := bitsNoneRow.holds Try.pinned (OpenSpec.ofChange bitsNoneSpec)

/-- ITS FALSE NEIGHBOUR: 'it returns false'. Refute it at one input. -/
def bitsNoneWrong : ChangeSpec := { name := "bitsNone", fn := fun _ => fun
  | [d1, d2, d3] => { results := [.lit (.bool false)], args := [d1, d2, d3] }
  | _ => none }
def BitsNoneWrongFalsely : Prop := bitsNoneRow.holds Try.pinned (OpenSpec.ofChange bitsNoneWrong)

/-- 'scriniumlaw8.BitsMany': WHATEVER THE INPUT: true; the input reads as it did. -/
def bitsManySpec : ChangeSpec := { name := "bitsMany", fn := fun _ => fun
  | [d1, d2] => { results := [.lit (.bool true)], args := [d1, d2] }
  | _ => none }
def bitsManyRow : OpenClaim := { program := "ytjfeocoengheaaa", sum := "8e2f95c00bbd0e5e7188246359bb7808a823b1d63549cea634f8d1faa788ad79", func := "scrinium/scriniumlaw8.BitsMany", spec := "bitsMany", recurses := true, apart := false }
def BitsManySaid : Prop := bitsManyRow.holds Try.pinned (OpenSpec.ofChange bitsManySpec)

/-- ITS FALSE NEIGHBOUR: 'it returns false'. Refute it at one input. -/
def bitsManyWrong : ChangeSpec := { name := "bitsMany", fn := fun _ => fun
  | [d1, d2] => { results := [.lit (.bool false)], args := [d1, d2] }
  | _ => none }
def BitsManyWrongFalsely : Prop := bitsManyRow.holds Try.pinned (OpenSpec.ofChange bitsManyWrong)

/-- 'scriniumlaw8.BitsBuild': WHATEVER THE INPUT: true; the input reads as it did. -/
def bitsBuildSpec : ChangeSpec := { name := "bitsBuild", fn := fun _ => fun
  | [d] => { results := [.lit (.bool true)], args := [d] }
  | _ => none }
def bitsBuildRow : OpenClaim := { program := "ytjfeocoengheaaa", sum := "8e2f95c00bbd0e5e7188246359bb7808a823b1d63549cea634f8d1faa788ad79", func := "scrinium/scriniumlaw8.BitsBuild", spec := "bitsBuild", recurses := true, apart := false }
def BitsBuildSaid : Prop := bitsBuildRow.holds Try.pinned (OpenSpec.ofChange bitsBuildSpec)

/-- ITS FALSE NEIGHBOUR: 'it returns false'. Refute it at one input. -/
def bitsBuildWrong : ChangeSpec := { name := "bitsBuild", fn := fun _ => fun
  | [d] => { results := [.lit (.bool false)], args := [d] }
  | _ => none }
def BitsBuildWrongFalsely : Prop := bitsBuildRow.holds Try.pinned (OpenSpec.ofChange bitsBuildWrong)

/-- 'scriniumlaw8.BitsShares': WHATEVER THE INPUT: true; the input reads as it did. -/
def bitsSharesSpec : ChangeSpec := { name := "bitsShares", fn := fun _ => fun
  | [d1, d2, d3] => { results := [.lit (.bool true)], args := [d1, d2, d3] }
  | _ => none }
def bitsSharesRow : OpenClaim := { program := "ytjfeocoengheaaa", sum := "8e2f95c00bbd0e5e7188246359bb7808a823b1d63549cea634f8d1faa788ad79", func := "scrinium/scriniumlaw8.BitsShares", spec := "bitsShares", recurses := true, apart := false }
def BitsSharesSaid : Prop := bitsSharesRow.holds Try.pinned (OpenSpec.ofChange bitsSharesSpec)

/-- ITS FALSE NEIGHBOUR: 'it returns false'. Refute it at one input. -/
def bitsSharesWrong : ChangeSpec := { name := "bitsShares", fn := fun _ => fun
  | [d1, d2, d3] => { results := [.lit (.bool false)], args := [d1, d2, d3] }
  | _ => none }
def BitsSharesWrongFalsely : Prop := bitsSharesRow.holds Try.pinned (OpenSpec.ofChange bitsSharesWrong)

/-- 'scriniumlaw8.BitsFront': WHATEVER THE INPUT: true; the input reads as it did. -/
def bitsFrontSpec : ChangeSpec := { name := "bitsFront", fn := fun _ => fun
  | [d1, d2, d3] => { results := [.lit (.bool true)], args := [d1, d2, d3] }
  | _ => none }
def bitsFrontRow : OpenClaim := { program := "ytjfeocoengheaaa", sum := "8e2f95c00bbd0e5e7188246359bb7808a823b1d63549cea634f8d1faa788ad79", func := "scrinium/scriniumlaw8.BitsFront", spec := "bitsFront", recurses := true, apart := false }
def BitsFrontSaid : Prop := bitsFrontRow.holds Try.pinned (OpenSpec.ofChange bitsFrontSpec)

/-- ITS FALSE NEIGHBOUR: 'it returns false'. Refute it at one input. -/
def bitsFrontWrong : ChangeSpec := { name := "bitsFront", fn := fun _ => fun
  | [d1, d2, d3] => { results := [.lit (.bool false)], args := [d1, d2, d3] }
  | _ => none }
def BitsFrontWrongFalsely : Prop := bitsFrontRow.holds Try.pinned (OpenSpec.ofChange bitsFrontWrong)

/- THE SECOND FORM. 'bulk': how many values and letters a reading holds, each counted each time it is reached (what is shared counts as often as it is met; a slice's spare places count too). A statement '..UptoSaid' is the law's where the arguments, and the package variables that the reading takes, are together of bulk at most 1048576: NARROWER than '..Said'. Prove '..Said' where nothing that the law and all that it calls make is longer than what came in: it says more and counts as full. Else prove '..UptoSaid'. A law counts once. -/
mutual
def uptoBulk {H : Type} : DataW H → Nat
  | .lit (.string bytes) => bytes.length + 1
  | .lit _ => 1
  | .nil => 1
  | .ptr d => uptoBulk d + 1
  | .slice elems spare => uptoBulkAll elems + uptoBulkAll spare + 1
  | .agg parts => uptoBulkAll parts + 1
  | .iface _ d => uptoBulk d + 1
  | .map entries => uptoBulkEntries entries + 1
  | .held _ => 1
def uptoBulkAll {H : Type} : List (DataW H) → Nat
  | [] => 0
  | d :: r => uptoBulk d + uptoBulkAll r
def uptoBulkEntries {H : Type} : List (Lit × DataW H) → Nat
  | [] => 0
  | x :: r => uptoBulkEntry x + uptoBulkEntries r
def uptoBulkEntry {H : Type} : Lit × DataW H → Nat
  | (.string bytes, d) => bytes.length + uptoBulk d + 1
  | (_, d) => uptoBulk d + 1
 end
def uptoSmall : (H : Type) → List (DataW H) → Bool := fun _ ds => decide (uptoBulkAll ds ≤ 1048576)
def OpenSpec.upto (s : _root_.Go.ChangeSpec) : _root_.Go.OpenSpec := { _root_.Go.OpenSpec.ofChange s with cond := some uptoSmall }

/-- 'scriniumlaw8.BitsRanks', WHERE WHAT IT READS IS OF BULK AT MOST 1048576: true; the input reads as it did. -/
def bitsRanksUptoRow : OpenClaim := { program := "ytjfeocoengheaaa", sum := "8e2f95c00bbd0e5e7188246359bb7808a823b1d63549cea634f8d1faa788ad79", func := "scrinium/scriniumlaw8.BitsRanks", spec := "bitsRanks", recurses := true, apart := false, narrowed := true }
def BitsRanksUptoSaid : Prop := bitsRanksUptoRow.holds Try.pinned (OpenSpec.upto bitsRanksSpec)

/-- 'scriniumlaw8.BitsBack', WHERE WHAT IT READS IS OF BULK AT MOST 1048576: true; the input reads as it did. -/
def bitsBackUptoRow : OpenClaim := { program := "ytjfeocoengheaaa", sum := "8e2f95c00bbd0e5e7188246359bb7808a823b1d63549cea634f8d1faa788ad79", func := "scrinium/scriniumlaw8.BitsBack", spec := "bitsBack", recurses := true, apart := false, narrowed := true }
def BitsBackUptoSaid : Prop := bitsBackUptoRow.holds Try.pinned (OpenSpec.upto bitsBackSpec)

/-- 'scriniumlaw8.BitsNone', WHERE WHAT IT READS IS OF BULK AT MOST 1048576: true; the input reads as it did. -/
def bitsNoneUptoRow : OpenClaim := { program := "ytjfeocoengheaaa", sum := "8e2f95c00bbd0e5e7188246359bb7808a823b1d63549cea634f8d1faa788ad79", func := "scrinium/scriniumlaw8.BitsNone", spec := "bitsNone", recurses := true, apart := false, narrowed := true }
def BitsNoneUptoSaid : Prop := bitsNoneUptoRow.holds Try.pinned (OpenSpec.upto bitsNoneSpec)

/-- 'scriniumlaw8.BitsMany', WHERE WHAT IT READS IS OF BULK AT MOST 1048576: true; the input reads as it did. -/
def bitsManyUptoRow : OpenClaim := { program := "ytjfeocoengheaaa", sum := "8e2f95c00bbd0e5e7188246359bb7808a823b1d63549cea634f8d1faa788ad79", func := "scrinium/scriniumlaw8.BitsMany", spec := "bitsMany", recurses := true, apart := false, narrowed := true }
def BitsManyUptoSaid : Prop := bitsManyUptoRow.holds Try.pinned (OpenSpec.upto bitsManySpec)

/-- 'scriniumlaw8.BitsBuild', WHERE WHAT IT READS IS OF BULK AT MOST 1048576: true; the input reads as it did. -/
def bitsBuildUptoRow : OpenClaim := { program := "ytjfeocoengheaaa", sum := "8e2f95c00bbd0e5e7188246359bb7808a823b1d63549cea634f8d1faa788ad79", func := "scrinium/scriniumlaw8.BitsBuild", spec := "bitsBuild", recurses := true, apart := false, narrowed := true }
def BitsBuildUptoSaid : Prop := bitsBuildUptoRow.holds Try.pinned (OpenSpec.upto bitsBuildSpec)

/-- 'scriniumlaw8.BitsShares', WHERE WHAT IT READS IS OF BULK AT MOST 1048576: true; the input reads as it did. -/
def bitsSharesUptoRow : OpenClaim := { program := "ytjfeocoengheaaa", sum := "8e2f95c00bbd0e5e7188246359bb7808a823b1d63549cea634f8d1faa788ad79", func := "scrinium/scriniumlaw8.BitsShares", spec := "bitsShares", recurses := true, apart := false, narrowed := true }
def BitsSharesUptoSaid : Prop := bitsSharesUptoRow.holds Try.pinned (OpenSpec.upto bitsSharesSpec)

/-- 'scriniumlaw8.BitsFront', WHERE WHAT IT READS IS OF BULK AT MOST 1048576: true; the input reads as it did. -/
def bitsFrontUptoRow : OpenClaim := { program := "ytjfeocoengheaaa", sum := "8e2f95c00bbd0e5e7188246359bb7808a823b1d63549cea634f8d1faa788ad79", func := "scrinium/scriniumlaw8.BitsFront", spec := "bitsFront", recurses := true, apart := false, narrowed := true }
def BitsFrontUptoSaid : Prop := bitsFrontUptoRow.holds Try.pinned (OpenSpec.upto bitsFrontSpec)

end Rows
end Go.Proofs.Ytjfeocoengheaaa
