/-
  No cell of these rows narrows 'for every input' (looked for: loops, veiled, ifaces, maps, wideKeys, modest, calm, conditions, laid).
  DERIVED. THE GIVEN ROWS OF THIS SEAT. 11 by the template 'for every input the law returns true; each argument reads behind the call as it read before'; 0 by the template 'total and deterministic' (their statements: YtajkhkgakafgkaaTotals.lean).
  GIVEN WITH THE SEED: the statements are not yours to turn. If you find one false, say at which input.
  Laid BY PROGRAM, IN A SANDBOX (cutbox-rows.mjs): the forced cells as the released guide's own fill.sh prints them over the translation a5b90715d25ce6b9… (all of the seat's roots in one cut). By AI agents, Wed Nov 11 2026. No macro, syntax, notation, axiom, sorry.
-/
import Derived.Test.YtajkhkgakafgkaaChecked
import GoSem.Claim
import GoSem.ClaimJoined
import GoSem.ClaimMapViews
import Derived.JoinedTies
import Derived.KernelRfl
namespace Go.Proofs.Ytajkhkgakafgkaa
/- THE CELL 'sum', in the pinned program and in every row, IS THE sha256 OF THE DUMP (.gsa) THAT YtajkhkgakafgkaaProg.lean LOADS. Nothing in Lean hashes anything: it is a label: what it is worth is what the hold of that sum in a sandbox is worth. -/
noncomputable def Try.pinned : Pinned := { name := "ytajkhkgakafgkaa", sum := "a5b90715d25ce6b97aa6b87fc8ab2b73895e29c5d873b9a54afbe6c7ca9dfa4b", checked := Try.checked }
namespace Rows
def none {H : Type} : Left H := { results := [], args := [] }

/-- 'scriniumlaw6.ArenaLeast': WHATEVER THE INPUT: true; the input reads as it did. -/
def arenaLeastSpec : ChangeSpec := { name := "arenaLeast", fn := fun _ => fun
  | [d1, d2, d3] => { results := [.lit (.bool true)], args := [d1, d2, d3] }
  | _ => none }
def arenaLeastRow : OpenClaim := { program := "ytajkhkgakafgkaa", sum := "a5b90715d25ce6b97aa6b87fc8ab2b73895e29c5d873b9a54afbe6c7ca9dfa4b", func := "scrinium/scriniumlaw6.ArenaLeast", spec := "arenaLeast", apart := false }
def ArenaLeastSaid : Prop := arenaLeastRow.holds Try.pinned (OpenSpec.ofChange arenaLeastSpec)

/-- ITS FALSE NEIGHBOUR: 'it returns false'. Refute it at one input. -/
def arenaLeastWrong : ChangeSpec := { name := "arenaLeast", fn := fun _ => fun
  | [d1, d2, d3] => { results := [.lit (.bool false)], args := [d1, d2, d3] }
  | _ => none }
def ArenaLeastWrongFalsely : Prop := arenaLeastRow.holds Try.pinned (OpenSpec.ofChange arenaLeastWrong)

/-- 'scriniumlaw6.ArenaMade': WHATEVER THE INPUT: true; the input reads as it did. -/
def arenaMadeSpec : ChangeSpec := { name := "arenaMade", fn := fun _ => fun
  | [d1, d2] => { results := [.lit (.bool true)], args := [d1, d2] }
  | _ => none }
def arenaMadeRow : OpenClaim := { program := "ytajkhkgakafgkaa", sum := "a5b90715d25ce6b97aa6b87fc8ab2b73895e29c5d873b9a54afbe6c7ca9dfa4b", func := "scrinium/scriniumlaw6.ArenaMade", spec := "arenaMade", apart := false }
def ArenaMadeSaid : Prop := arenaMadeRow.holds Try.pinned (OpenSpec.ofChange arenaMadeSpec)

/-- ITS FALSE NEIGHBOUR: 'it returns false'. Refute it at one input. -/
def arenaMadeWrong : ChangeSpec := { name := "arenaMade", fn := fun _ => fun
  | [d1, d2] => { results := [.lit (.bool false)], args := [d1, d2] }
  | _ => none }
def ArenaMadeWrongFalsely : Prop := arenaMadeRow.holds Try.pinned (OpenSpec.ofChange arenaMadeWrong)

/-- 'scriniumlaw6.ArenaRefuses': WHATEVER THE INPUT: true; the input reads as it did. -/
def arenaRefusesSpec : ChangeSpec := { name := "arenaRefuses", fn := fun _ => fun
  | [d1, d2] => { results := [.lit (.bool true)], args := [d1, d2] }
  | _ => none }
def arenaRefusesRow : OpenClaim := { program := "ytajkhkgakafgkaa", sum := "a5b90715d25ce6b97aa6b87fc8ab2b73895e29c5d873b9a54afbe6c7ca9dfa4b", func := "scrinium/scriniumlaw6.ArenaRefuses", spec := "arenaRefuses", apart := false }
def ArenaRefusesSaid : Prop := arenaRefusesRow.holds Try.pinned (OpenSpec.ofChange arenaRefusesSpec)

/-- ITS FALSE NEIGHBOUR: 'it returns false'. Refute it at one input. -/
def arenaRefusesWrong : ChangeSpec := { name := "arenaRefuses", fn := fun _ => fun
  | [d1, d2] => { results := [.lit (.bool false)], args := [d1, d2] }
  | _ => none }
def ArenaRefusesWrongFalsely : Prop := arenaRefusesRow.holds Try.pinned (OpenSpec.ofChange arenaRefusesWrong)

/-- 'scriniumlaw6.ArenaTwice': WHATEVER THE INPUT: true; the input reads as it did. -/
def arenaTwiceSpec : ChangeSpec := { name := "arenaTwice", fn := fun _ => fun
  | [d] => { results := [.lit (.bool true)], args := [d] }
  | _ => none }
def arenaTwiceRow : OpenClaim := { program := "ytajkhkgakafgkaa", sum := "a5b90715d25ce6b97aa6b87fc8ab2b73895e29c5d873b9a54afbe6c7ca9dfa4b", func := "scrinium/scriniumlaw6.ArenaTwice", spec := "arenaTwice", apart := false }
def ArenaTwiceSaid : Prop := arenaTwiceRow.holds Try.pinned (OpenSpec.ofChange arenaTwiceSpec)

/-- ITS FALSE NEIGHBOUR: 'it returns false'. Refute it at one input. -/
def arenaTwiceWrong : ChangeSpec := { name := "arenaTwice", fn := fun _ => fun
  | [d] => { results := [.lit (.bool false)], args := [d] }
  | _ => none }
def ArenaTwiceWrongFalsely : Prop := arenaTwiceRow.holds Try.pinned (OpenSpec.ofChange arenaTwiceWrong)

/-- 'scriniumlaw6.ArenaCounts': WHATEVER THE INPUT: true; the input reads as it did. -/
def arenaCountsSpec : ChangeSpec := { name := "arenaCounts", fn := fun _ => fun
  | [d1, d2] => { results := [.lit (.bool true)], args := [d1, d2] }
  | _ => none }
def arenaCountsRow : OpenClaim := { program := "ytajkhkgakafgkaa", sum := "a5b90715d25ce6b97aa6b87fc8ab2b73895e29c5d873b9a54afbe6c7ca9dfa4b", func := "scrinium/scriniumlaw6.ArenaCounts", spec := "arenaCounts", apart := false }
def ArenaCountsSaid : Prop := arenaCountsRow.holds Try.pinned (OpenSpec.ofChange arenaCountsSpec)

/-- ITS FALSE NEIGHBOUR: 'it returns false'. Refute it at one input. -/
def arenaCountsWrong : ChangeSpec := { name := "arenaCounts", fn := fun _ => fun
  | [d1, d2] => { results := [.lit (.bool false)], args := [d1, d2] }
  | _ => none }
def ArenaCountsWrongFalsely : Prop := arenaCountsRow.holds Try.pinned (OpenSpec.ofChange arenaCountsWrong)

/-- 'scriniumlaw17.CellFails': WHATEVER THE INPUT: true; the input reads as it did. -/
def cellFailsSpec : ChangeSpec := { name := "cellFails", fn := fun _ => fun
  | [d] => { results := [.lit (.bool true)], args := [d] }
  | _ => none }
def cellFailsRow : OpenClaim := { program := "ytajkhkgakafgkaa", sum := "a5b90715d25ce6b97aa6b87fc8ab2b73895e29c5d873b9a54afbe6c7ca9dfa4b", func := "scrinium/scriniumlaw17.CellFails", spec := "cellFails", apart := false }
def CellFailsSaid : Prop := cellFailsRow.holds Try.pinned (OpenSpec.ofChange cellFailsSpec)

/-- ITS FALSE NEIGHBOUR: 'it returns false'. Refute it at one input. -/
def cellFailsWrong : ChangeSpec := { name := "cellFails", fn := fun _ => fun
  | [d] => { results := [.lit (.bool false)], args := [d] }
  | _ => none }
def CellFailsWrongFalsely : Prop := cellFailsRow.holds Try.pinned (OpenSpec.ofChange cellFailsWrong)

/-- 'scriniumlaw17.CellPlays': WHATEVER THE INPUT: true; the input reads as it did. -/
def cellPlaysSpec : ChangeSpec := { name := "cellPlays", fn := fun _ => fun
  | [d1, d2] => { results := [.lit (.bool true)], args := [d1, d2] }
  | _ => none }
def cellPlaysRow : OpenClaim := { program := "ytajkhkgakafgkaa", sum := "a5b90715d25ce6b97aa6b87fc8ab2b73895e29c5d873b9a54afbe6c7ca9dfa4b", func := "scrinium/scriniumlaw17.CellPlays", spec := "cellPlays", apart := false }
def CellPlaysSaid : Prop := cellPlaysRow.holds Try.pinned (OpenSpec.ofChange cellPlaysSpec)

/-- ITS FALSE NEIGHBOUR: 'it returns false'. Refute it at one input. -/
def cellPlaysWrong : ChangeSpec := { name := "cellPlays", fn := fun _ => fun
  | [d1, d2] => { results := [.lit (.bool false)], args := [d1, d2] }
  | _ => none }
def CellPlaysWrongFalsely : Prop := cellPlaysRow.holds Try.pinned (OpenSpec.ofChange cellPlaysWrong)

/-- 'scriniumlaw17.CellOld': WHATEVER THE INPUT: true; the input reads as it did. -/
def cellOldSpec : ChangeSpec := { name := "cellOld", fn := fun _ => fun
  | [d1, d2] => { results := [.lit (.bool true)], args := [d1, d2] }
  | _ => none }
def cellOldRow : OpenClaim := { program := "ytajkhkgakafgkaa", sum := "a5b90715d25ce6b97aa6b87fc8ab2b73895e29c5d873b9a54afbe6c7ca9dfa4b", func := "scrinium/scriniumlaw17.CellOld", spec := "cellOld", apart := false }
def CellOldSaid : Prop := cellOldRow.holds Try.pinned (OpenSpec.ofChange cellOldSpec)

/-- ITS FALSE NEIGHBOUR: 'it returns false'. Refute it at one input. -/
def cellOldWrong : ChangeSpec := { name := "cellOld", fn := fun _ => fun
  | [d1, d2] => { results := [.lit (.bool false)], args := [d1, d2] }
  | _ => none }
def CellOldWrongFalsely : Prop := cellOldRow.holds Try.pinned (OpenSpec.ofChange cellOldWrong)

/-- 'scriniumlaw17.CellRaces': WHATEVER THE INPUT: true; the input reads as it did. -/
def cellRacesSpec : ChangeSpec := { name := "cellRaces", fn := fun _ => fun
  | [d1, d2] => { results := [.lit (.bool true)], args := [d1, d2] }
  | _ => none }
def cellRacesRow : OpenClaim := { program := "ytajkhkgakafgkaa", sum := "a5b90715d25ce6b97aa6b87fc8ab2b73895e29c5d873b9a54afbe6c7ca9dfa4b", func := "scrinium/scriniumlaw17.CellRaces", spec := "cellRaces", apart := false }
def CellRacesSaid : Prop := cellRacesRow.holds Try.pinned (OpenSpec.ofChange cellRacesSpec)

/-- ITS FALSE NEIGHBOUR: 'it returns false'. Refute it at one input. -/
def cellRacesWrong : ChangeSpec := { name := "cellRaces", fn := fun _ => fun
  | [d1, d2] => { results := [.lit (.bool false)], args := [d1, d2] }
  | _ => none }
def CellRacesWrongFalsely : Prop := cellRacesRow.holds Try.pinned (OpenSpec.ofChange cellRacesWrong)

/-- 'scriniumlaw17.CellChain': WHATEVER THE INPUT: true; the input reads as it did. -/
def cellChainSpec : ChangeSpec := { name := "cellChain", fn := fun _ => fun
  | [d] => { results := [.lit (.bool true)], args := [d] }
  | _ => none }
def cellChainRow : OpenClaim := { program := "ytajkhkgakafgkaa", sum := "a5b90715d25ce6b97aa6b87fc8ab2b73895e29c5d873b9a54afbe6c7ca9dfa4b", func := "scrinium/scriniumlaw17.CellChain", spec := "cellChain", apart := false }
def CellChainSaid : Prop := cellChainRow.holds Try.pinned (OpenSpec.ofChange cellChainSpec)

/-- ITS FALSE NEIGHBOUR: 'it returns false'. Refute it at one input. -/
def cellChainWrong : ChangeSpec := { name := "cellChain", fn := fun _ => fun
  | [d] => { results := [.lit (.bool false)], args := [d] }
  | _ => none }
def CellChainWrongFalsely : Prop := cellChainRow.holds Try.pinned (OpenSpec.ofChange cellChainWrong)

/-- 'scriniumlaw18.PinsKeep': WHATEVER THE INPUT: true; the input reads as it did. -/
def pinsKeepSpec : ChangeSpec := { name := "pinsKeep", fn := fun _ => fun
  | [d1, d2] => { results := [.lit (.bool true)], args := [d1, d2] }
  | _ => none }
def pinsKeepRow : OpenClaim := { program := "ytajkhkgakafgkaa", sum := "a5b90715d25ce6b97aa6b87fc8ab2b73895e29c5d873b9a54afbe6c7ca9dfa4b", func := "scrinium/scriniumlaw18.PinsKeep", spec := "pinsKeep", apart := false }
def PinsKeepSaid : Prop := pinsKeepRow.holds Try.pinned (OpenSpec.ofChange pinsKeepSpec)

/-- ITS FALSE NEIGHBOUR: 'it returns false'. Refute it at one input. -/
def pinsKeepWrong : ChangeSpec := { name := "pinsKeep", fn := fun _ => fun
  | [d1, d2] => { results := [.lit (.bool false)], args := [d1, d2] }
  | _ => none }
def PinsKeepWrongFalsely : Prop := pinsKeepRow.holds Try.pinned (OpenSpec.ofChange pinsKeepWrong)

/- THE SECOND FORM. 'bulk': how many values and letters a reading holds, each counted each time it is reached (what is shared counts as often as it is met; a slice's spare places count too). A statement '..UptoSaid' is the law's where the arguments, and the package variables that the reading takes, are together of bulk at most 1048576: NARROWER than '..Said'. Prove '..Said' where nothing that the law and all that it calls make is longer than what came in: it says more and counts as full. Else prove '..UptoSaid'. A law counts once. -/
mutual
def uptoBulk {H : Type} : DataW H → Nat
  | .lit (.string bytes) => bytes.length + 1
  | .lit _ => 1
  | .nil => 1
  | .ptr d => uptoBulk d + 1
  | .slice elems spare => uptoBulkAll elems + uptoBulkAll spare + 1
  | .agg parts => uptoBulkAll parts + 1
  | .iface _ d => uptoBulk d + 1
  | .map entries => uptoBulkEntries entries + 1
  | .held _ => 1
def uptoBulkAll {H : Type} : List (DataW H) → Nat
  | [] => 0
  | d :: r => uptoBulk d + uptoBulkAll r
def uptoBulkEntries {H : Type} : List (Lit × DataW H) → Nat
  | [] => 0
  | x :: r => uptoBulkEntry x + uptoBulkEntries r
def uptoBulkEntry {H : Type} : Lit × DataW H → Nat
  | (.string bytes, d) => bytes.length + uptoBulk d + 1
  | (_, d) => uptoBulk d + 1
 end
def uptoSmall : (H : Type) → List (DataW H) → Bool := fun _ ds => decide (uptoBulkAll ds ≤ 1048576)
def OpenSpec.upto (s : _root_.Go.ChangeSpec) : _root_.Go.OpenSpec := { _root_.Go.OpenSpec.ofChange s with cond := some uptoSmall }

/-- 'scriniumlaw6.ArenaLeast', WHERE WHAT IT READS IS OF BULK AT MOST 1048576: true; the input reads as it did. -/
def arenaLeastUptoRow : OpenClaim := { program := "ytajkhkgakafgkaa", sum := "a5b90715d25ce6b97aa6b87fc8ab2b73895e29c5d873b9a54afbe6c7ca9dfa4b", func := "scrinium/scriniumlaw6.ArenaLeast", spec := "arenaLeast", apart := false, narrowed := true }
def ArenaLeastUptoSaid : Prop := arenaLeastUptoRow.holds Try.pinned (OpenSpec.upto arenaLeastSpec)

/-- 'scriniumlaw6.ArenaMade', WHERE WHAT IT READS IS OF BULK AT MOST 1048576: true; the input reads as it did. -/
def arenaMadeUptoRow : OpenClaim := { program := "ytajkhkgakafgkaa", sum := "a5b90715d25ce6b97aa6b87fc8ab2b73895e29c5d873b9a54afbe6c7ca9dfa4b", func := "scrinium/scriniumlaw6.ArenaMade", spec := "arenaMade", apart := false, narrowed := true }
def ArenaMadeUptoSaid : Prop := arenaMadeUptoRow.holds Try.pinned (OpenSpec.upto arenaMadeSpec)

/-- 'scriniumlaw6.ArenaRefuses', WHERE WHAT IT READS IS OF BULK AT MOST 1048576: true; the input reads as it did. -/
def arenaRefusesUptoRow : OpenClaim := { program := "ytajkhkgakafgkaa", sum := "a5b90715d25ce6b97aa6b87fc8ab2b73895e29c5d873b9a54afbe6c7ca9dfa4b", func := "scrinium/scriniumlaw6.ArenaRefuses", spec := "arenaRefuses", apart := false, narrowed := true }
def ArenaRefusesUptoSaid : Prop := arenaRefusesUptoRow.holds Try.pinned (OpenSpec.upto arenaRefusesSpec)

/-- 'scriniumlaw6.ArenaTwice', WHERE WHAT IT READS IS OF BULK AT MOST 1048576: true; the input reads as it did. -/
def arenaTwiceUptoRow : OpenClaim := { program := "ytajkhkgakafgkaa", sum := "a5b90715d25ce6b97aa6b87fc8ab2b73895e29c5d873b9a54afbe6c7ca9dfa4b", func := "scrinium/scriniumlaw6.ArenaTwice", spec := "arenaTwice", apart := false, narrowed := true }
def ArenaTwiceUptoSaid : Prop := arenaTwiceUptoRow.holds Try.pinned (OpenSpec.upto arenaTwiceSpec)

/-- 'scriniumlaw6.ArenaCounts', WHERE WHAT IT READS IS OF BULK AT MOST 1048576: true; the input reads as it did. -/
def arenaCountsUptoRow : OpenClaim := { program := "ytajkhkgakafgkaa", sum := "a5b90715d25ce6b97aa6b87fc8ab2b73895e29c5d873b9a54afbe6c7ca9dfa4b", func := "scrinium/scriniumlaw6.ArenaCounts", spec := "arenaCounts", apart := false, narrowed := true }
def ArenaCountsUptoSaid : Prop := arenaCountsUptoRow.holds Try.pinned (OpenSpec.upto arenaCountsSpec)

/-- 'scriniumlaw17.CellFails', WHERE WHAT IT READS IS OF BULK AT MOST 1048576: true; the input reads as it did. -/
def cellFailsUptoRow : OpenClaim := { program := "ytajkhkgakafgkaa", sum := "a5b90715d25ce6b97aa6b87fc8ab2b73895e29c5d873b9a54afbe6c7ca9dfa4b", func := "scrinium/scriniumlaw17.CellFails", spec := "cellFails", apart := false, narrowed := true }
def CellFailsUptoSaid : Prop := cellFailsUptoRow.holds Try.pinned (OpenSpec.upto cellFailsSpec)

/-- 'scriniumlaw17.CellPlays', WHERE WHAT IT READS IS OF BULK AT MOST 1048576: true; the input reads as it did. -/
def cellPlaysUptoRow : OpenClaim := { program := "ytajkhkgakafgkaa", sum := "a5b90715d25ce6b97aa6b87fc8ab2b73895e29c5d873b9a54afbe6c7ca9dfa4b", func := "scrinium/scriniumlaw17.CellPlays", spec := "cellPlays", apart := false, narrowed := true }
def CellPlaysUptoSaid : Prop := cellPlaysUptoRow.holds Try.pinned (OpenSpec.upto cellPlaysSpec)

/-- 'scriniumlaw17.CellOld', WHERE WHAT IT READS IS OF BULK AT MOST 1048576: true; the input reads as it did. -/
def cellOldUptoRow : OpenClaim := { program := "ytajkhkgakafgkaa", sum := "a5b90715d25ce6b97aa6b87fc8ab2b73895e29c5d873b9a54afbe6c7ca9dfa4b", func := "scrinium/scriniumlaw17.CellOld", spec := "cellOld", apart := false, narrowed := true }
def CellOldUptoSaid : Prop := cellOldUptoRow.holds Try.pinned (OpenSpec.upto cellOldSpec)

/-- 'scriniumlaw17.CellRaces', WHERE WHAT IT READS IS OF BULK AT MOST 1048576: true; the input reads as it did. -/
def cellRacesUptoRow : OpenClaim := { program := "ytajkhkgakafgkaa", sum := "a5b90715d25ce6b97aa6b87fc8ab2b73895e29c5d873b9a54afbe6c7ca9dfa4b", func := "scrinium/scriniumlaw17.CellRaces", spec := "cellRaces", apart := false, narrowed := true }
def CellRacesUptoSaid : Prop := cellRacesUptoRow.holds Try.pinned (OpenSpec.upto cellRacesSpec)

/-- 'scriniumlaw17.CellChain', WHERE WHAT IT READS IS OF BULK AT MOST 1048576: true; the input reads as it did. -/
def cellChainUptoRow : OpenClaim := { program := "ytajkhkgakafgkaa", sum := "a5b90715d25ce6b97aa6b87fc8ab2b73895e29c5d873b9a54afbe6c7ca9dfa4b", func := "scrinium/scriniumlaw17.CellChain", spec := "cellChain", apart := false, narrowed := true }
def CellChainUptoSaid : Prop := cellChainUptoRow.holds Try.pinned (OpenSpec.upto cellChainSpec)

/-- 'scriniumlaw18.PinsKeep', WHERE WHAT IT READS IS OF BULK AT MOST 1048576: true; the input reads as it did. -/
def pinsKeepUptoRow : OpenClaim := { program := "ytajkhkgakafgkaa", sum := "a5b90715d25ce6b97aa6b87fc8ab2b73895e29c5d873b9a54afbe6c7ca9dfa4b", func := "scrinium/scriniumlaw18.PinsKeep", spec := "pinsKeep", apart := false, narrowed := true }
def PinsKeepUptoSaid : Prop := pinsKeepUptoRow.holds Try.pinned (OpenSpec.upto pinsKeepSpec)

end Rows
end Go.Proofs.Ytajkhkgakafgkaa
