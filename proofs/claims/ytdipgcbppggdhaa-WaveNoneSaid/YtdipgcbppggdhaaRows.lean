/-
  No cell of these rows narrows 'for every input' (looked for: loops, veiled, ifaces, maps, wideKeys, modest, calm, conditions, laid).
  DERIVED. THE GIVEN ROWS OF THIS SEAT. 6 by the template 'for every input the law returns true; each argument reads behind the call as it read before'; 0 by the template 'total and deterministic' (their statements: YtdipgcbppggdhaaTotals.lean).
  GIVEN WITH THE SEED: the statements are not yours to turn. If you find one false, say at which input.
  Laid BY PROGRAM, IN A SANDBOX (cutbox-rows.mjs): the forced cells as the released guide's own fill.sh prints them over the translation 665361cb06a37916… (all of the seat's roots in one cut). By AI agents, Wed Nov 11 2026. No macro, syntax, notation, axiom, sorry.
-/
import Derived.Test.YtdipgcbppggdhaaChecked
import GoSem.Claim
import GoSem.ClaimJoined
import GoSem.ClaimMapViews
import Derived.JoinedTies
import Derived.KernelRfl
namespace Go.Proofs.Ytdipgcbppggdhaa
/- THE CELL 'sum', in the pinned program and in every row, IS THE sha256 OF THE DUMP (.gsa) THAT YtdipgcbppggdhaaProg.lean LOADS. Nothing in Lean hashes anything: it is a label: what it is worth is what the hold of that sum in a sandbox is worth. -/
noncomputable def Try.pinned : Pinned := { name := "ytdipgcbppggdhaa", sum := "665361cb06a37916bbd19850669afc0841e073891503a7f76a69290712364553", checked := Try.checked }
namespace Rows
def none {H : Type} : Left H := { results := [], args := [] }

/-- 'scriniumlaw9.WaveRanks': WHATEVER THE INPUT: true; the input reads as it did. -/
def waveRanksSpec : ChangeSpec := { name := "waveRanks", fn := fun _ => fun
  | [d1, d2, d3] => { results := [.lit (.bool true)], args := [d1, d2, d3] }
  | _ => none }
def waveRanksRow : OpenClaim := { program := "ytdipgcbppggdhaa", sum := "665361cb06a37916bbd19850669afc0841e073891503a7f76a69290712364553", func := "scrinium/scriniumlaw9.WaveRanks", spec := "waveRanks", recurses := true, apart := false }
def WaveRanksSaid : Prop := waveRanksRow.holds Try.pinned (OpenSpec.ofChange waveRanksSpec)

/-- ITS FALSE NEIGHBOUR: 'it returns false'. Refute it at one input. -/
def waveRanksWrong : ChangeSpec := { name := "waveRanks", fn := fun _ => fun
  | [d1, d2, d3] => { results := [.lit (.bool false)], args := [d1, d2, d3] }
  | _ => none }
def WaveRanksWrongFalsely : Prop := waveRanksRow.holds Try.pinned (OpenSpec.ofChange waveRanksWrong)

/-- 'scriniumlaw9.WaveMany': WHATEVER THE INPUT: true; the input reads as it did. -/
def waveManySpec : ChangeSpec := { name := "waveMany", fn := fun _ => fun
  | [d1, d2] => { results := [.lit (.bool true)], args := [d1, d2] }
  | _ => none }
def waveManyRow : OpenClaim := { program := "ytdipgcbppggdhaa", sum := "665361cb06a37916bbd19850669afc0841e073891503a7f76a69290712364553", func := "scrinium/scriniumlaw9.WaveMany", spec := "waveMany", recurses := true, apart := false }
def WaveManySaid : Prop := waveManyRow.holds Try.pinned (OpenSpec.ofChange waveManySpec)

/-- ITS FALSE NEIGHBOUR: 'it returns false'. Refute it at one input. -/
def waveManyWrong : ChangeSpec := { name := "waveMany", fn := fun _ => fun
  | [d1, d2] => { results := [.lit (.bool false)], args := [d1, d2] }
  | _ => none }
def WaveManyWrongFalsely : Prop := waveManyRow.holds Try.pinned (OpenSpec.ofChange waveManyWrong)

/-- 'scriniumlaw9.WaveBack': WHATEVER THE INPUT: true; the input reads as it did. -/
def waveBackSpec : ChangeSpec := { name := "waveBack", fn := fun _ => fun
  | [d1, d2, d3] => { results := [.lit (.bool true)], args := [d1, d2, d3] }
  | _ => none }
def waveBackRow : OpenClaim := { program := "ytdipgcbppggdhaa", sum := "665361cb06a37916bbd19850669afc0841e073891503a7f76a69290712364553", func := "scrinium/scriniumlaw9.WaveBack", spec := "waveBack", recurses := true, apart := false }
def WaveBackSaid : Prop := waveBackRow.holds Try.pinned (OpenSpec.ofChange waveBackSpec)

/-- ITS FALSE NEIGHBOUR: 'it returns false'. Refute it at one input. -/
def waveBackWrong : ChangeSpec := { name := "waveBack", fn := fun _ => fun
  | [d1, d2, d3] => { results := [.lit (.bool false)], args := [d1, d2, d3] }
  | _ => none }
def WaveBackWrongFalsely : Prop := waveBackRow.holds Try.pinned (OpenSpec.ofChange waveBackWrong)

/-- 'scriniumlaw9.WaveNone': WHATEVER THE INPUT: true; the input reads as it did. -/
def waveNoneSpec : ChangeSpec := { name := "waveNone", fn := fun _ => fun
  | [d1, d2, d3] => { results := [.lit (.bool true)], args := [d1, d2, d3] }
  | _ => none }
def waveNoneRow : OpenClaim := { program := "ytdipgcbppggdhaa", sum := "665361cb06a37916bbd19850669afc0841e073891503a7f76a69290712364553", func := "scrinium/scriniumlaw9.WaveNone", spec := "waveNone", recurses := true, apart := false }
def WaveNoneSaid : Prop := waveNoneRow.holds Try.pinned (OpenSpec.ofChange waveNoneSpec)

/-- ITS FALSE NEIGHBOUR: 'it returns false'. Refute it at one input. -/
def waveNoneWrong : ChangeSpec := { name := "waveNone", fn := fun _ => fun
  | [d1, d2, d3] => { results := [.lit (.bool false)], args := [d1, d2, d3] }
  | _ => none }
def WaveNoneWrongFalsely : Prop := waveNoneRow.holds Try.pinned (OpenSpec.ofChange waveNoneWrong)

/-- 'scriniumlaw9.WaveNodes': WHATEVER THE INPUT: true; the input reads as it did. -/
def waveNodesSpec : ChangeSpec := { name := "waveNodes", fn := fun _ => fun
  | [d] => { results := [.lit (.bool true)], args := [d] }
  | _ => none }
def waveNodesRow : OpenClaim := { program := "ytdipgcbppggdhaa", sum := "665361cb06a37916bbd19850669afc0841e073891503a7f76a69290712364553", func := "scrinium/scriniumlaw9.WaveNodes", spec := "waveNodes", recurses := true, apart := false }
def WaveNodesSaid : Prop := waveNodesRow.holds Try.pinned (OpenSpec.ofChange waveNodesSpec)

/-- ITS FALSE NEIGHBOUR: 'it returns false'. Refute it at one input. -/
def waveNodesWrong : ChangeSpec := { name := "waveNodes", fn := fun _ => fun
  | [d] => { results := [.lit (.bool false)], args := [d] }
  | _ => none }
def WaveNodesWrongFalsely : Prop := waveNodesRow.holds Try.pinned (OpenSpec.ofChange waveNodesWrong)

/-- 'scriniumlaw9.WaveShares': WHATEVER THE INPUT: true; the input reads as it did. -/
def waveSharesSpec : ChangeSpec := { name := "waveShares", fn := fun _ => fun
  | [d1, d2, d3] => { results := [.lit (.bool true)], args := [d1, d2, d3] }
  | _ => none }
def waveSharesRow : OpenClaim := { program := "ytdipgcbppggdhaa", sum := "665361cb06a37916bbd19850669afc0841e073891503a7f76a69290712364553", func := "scrinium/scriniumlaw9.WaveShares", spec := "waveShares", recurses := true, apart := false }
def WaveSharesSaid : Prop := waveSharesRow.holds Try.pinned (OpenSpec.ofChange waveSharesSpec)

/-- ITS FALSE NEIGHBOUR: 'it returns false'. Refute it at one input. -/
def waveSharesWrong : ChangeSpec := { name := "waveShares", fn := fun _ => fun
  | [d1, d2, d3] => { results := [.lit (.bool false)], args := [d1, d2, d3] }
  | _ => none }
def WaveSharesWrongFalsely : Prop := waveSharesRow.holds Try.pinned (OpenSpec.ofChange waveSharesWrong)

/- THE SECOND FORM. 'bulk': how many values and letters a reading holds, each counted each time it is reached (what is shared counts as often as it is met; a slice's spare places count too). A statement '..UptoSaid' is the law's where the arguments, and the package variables that the reading takes, are together of bulk at most 1048576: NARROWER than '..Said'. Prove '..Said' where nothing that the law and all that it calls make is longer than what came in: it says more and counts as full. Else prove '..UptoSaid'. A law counts once. -/
mutual
def uptoBulk {H : Type} : DataW H → Nat
  | .lit (.string bytes) => bytes.length + 1
  | .lit _ => 1
  | .nil => 1
  | .ptr d => uptoBulk d + 1
  | .slice elems spare => uptoBulkAll elems + uptoBulkAll spare + 1
  | .agg parts => uptoBulkAll parts + 1
  | .iface _ d => uptoBulk d + 1
  | .map entries => uptoBulkEntries entries + 1
  | .held _ => 1
def uptoBulkAll {H : Type} : List (DataW H) → Nat
  | [] => 0
  | d :: r => uptoBulk d + uptoBulkAll r
def uptoBulkEntries {H : Type} : List (Lit × DataW H) → Nat
  | [] => 0
  | x :: r => uptoBulkEntry x + uptoBulkEntries r
def uptoBulkEntry {H : Type} : Lit × DataW H → Nat
  | (.string bytes, d) => bytes.length + uptoBulk d + 1
  | (_, d) => uptoBulk d + 1
 end
def uptoSmall : (H : Type) → List (DataW H) → Bool := fun _ ds => decide (uptoBulkAll ds ≤ 1048576)
def OpenSpec.upto (s : _root_.Go.ChangeSpec) : _root_.Go.OpenSpec := { _root_.Go.OpenSpec.ofChange s with cond := some uptoSmall }

/-- 'scriniumlaw9.WaveRanks', WHERE WHAT IT READS IS OF BULK AT MOST 1048576: true; the input reads as it did. -/
def waveRanksUptoRow : OpenClaim := { program := "ytdipgcbppggdhaa", sum := "665361cb06a37916bbd19850669afc0841e073891503a7f76a69290712364553", func := "scrinium/scriniumlaw9.WaveRanks", spec := "waveRanks", recurses := true, apart := false, narrowed := true }
def WaveRanksUptoSaid : Prop := waveRanksUptoRow.holds Try.pinned (OpenSpec.upto waveRanksSpec)

/-- 'scriniumlaw9.WaveMany', WHERE WHAT IT READS IS OF BULK AT MOST 1048576: true; the input reads as it did. -/
def waveManyUptoRow : OpenClaim := { program := "ytdipgcbppggdhaa", sum := "665361cb06a37916bbd19850669afc0841e073891503a7f76a69290712364553", func := "scrinium/scriniumlaw9.WaveMany", spec := "waveMany", recurses := true, apart := false, narrowed := true }
def WaveManyUptoSaid : Prop := waveManyUptoRow.holds Try.pinned (OpenSpec.upto waveManySpec)

/-- 'scriniumlaw9.WaveBack', WHERE WHAT IT READS IS OF BULK AT MOST 1048576: true; the input reads as it did. -/
def waveBackUptoRow : OpenClaim := { program := "ytdipgcbppggdhaa", sum := "665361cb06a37916bbd19850669afc0841e073891503a7f76a69290712364553", func := "scrinium/scriniumlaw9.WaveBack", spec := "waveBack", recurses := true, apart := false, narrowed := true }
def WaveBackUptoSaid : Prop := waveBackUptoRow.holds Try.pinned (OpenSpec.upto waveBackSpec)

/-- 'scriniumlaw9.WaveNone', WHERE WHAT IT READS IS OF BULK AT MOST 1048576: true; the input reads as it did. -/
def waveNoneUptoRow : OpenClaim := { program := "ytdipgcbppggdhaa", sum := "665361cb06a37916bbd19850669afc0841e073891503a7f76a69290712364553", func := "scrinium/scriniumlaw9.WaveNone", spec := "waveNone", recurses := true, apart := false, narrowed := true }
def WaveNoneUptoSaid : Prop := waveNoneUptoRow.holds Try.pinned (OpenSpec.upto waveNoneSpec)

/-- 'scriniumlaw9.WaveNodes', WHERE WHAT IT READS IS OF BULK AT MOST 1048576: true; the input reads as it did. -/
def waveNodesUptoRow : OpenClaim := { program := "ytdipgcbppggdhaa", sum := "665361cb06a37916bbd19850669afc0841e073891503a7f76a69290712364553", func := "scrinium/scriniumlaw9.WaveNodes", spec := "waveNodes", recurses := true, apart := false, narrowed := true }
def WaveNodesUptoSaid : Prop := waveNodesUptoRow.holds Try.pinned (OpenSpec.upto waveNodesSpec)

/-- 'scriniumlaw9.WaveShares', WHERE WHAT IT READS IS OF BULK AT MOST 1048576: true; the input reads as it did. -/
def waveSharesUptoRow : OpenClaim := { program := "ytdipgcbppggdhaa", sum := "665361cb06a37916bbd19850669afc0841e073891503a7f76a69290712364553", func := "scrinium/scriniumlaw9.WaveShares", spec := "waveShares", recurses := true, apart := false, narrowed := true }
def WaveSharesUptoSaid : Prop := waveSharesUptoRow.holds Try.pinned (OpenSpec.upto waveSharesSpec)

end Rows
end Go.Proofs.Ytdipgcbppggdhaa
