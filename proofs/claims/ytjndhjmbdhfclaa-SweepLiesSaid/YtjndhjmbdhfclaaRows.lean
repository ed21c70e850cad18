/-
  No cell of these rows narrows 'for every input' (looked for: loops, veiled, ifaces, maps, wideKeys, modest, calm, conditions, laid).
  DERIVED. THE GIVEN ROWS OF THIS SEAT. 9 by the template 'for every input the law returns true; each argument reads behind the call as it read before'; 0 by the template 'total and deterministic' (their statements: YtjndhjmbdhfclaaTotals.lean).
  GIVEN WITH THE SEED: the statements are not yours to turn. If you find one false, say at which input.
  Laid BY PROGRAM, IN A SANDBOX (cutbox-rows.mjs): the forced cells as the released guide's own fill.sh prints them over the translation 3db2a59d5a51ce42… (all of the seat's roots in one cut). By AI agents, Wed Nov 11 2026. No macro, syntax, notation, axiom, sorry.
-/
import Derived.Test.YtjndhjmbdhfclaaChecked
import GoSem.Claim
import GoSem.ClaimJoined
import GoSem.ClaimMapViews
import Derived.JoinedTies
import Derived.KernelRfl
namespace Go.Proofs.Ytjndhjmbdhfclaa
/- THE CELL 'sum', in the pinned program and in every row, IS THE sha256 OF THE DUMP (.gsa) THAT YtjndhjmbdhfclaaProg.lean LOADS. Nothing in Lean hashes anything: it is a label: what it is worth is what the hold of that sum in a sandbox is worth. -/
noncomputable def Try.pinned : Pinned := { name := "ytjndhjmbdhfclaa", sum := "3db2a59d5a51ce423493ce1010807259daf4bc2da7330b96e370dd99c56b68b4", checked := Try.checked }
namespace Rows
def none {H : Type} : Left H := { results := [], args := [] }

/-- 'scriniumlaw6.ArenaReach': WHATEVER THE INPUT: true; the input reads as it did. -/
def arenaReachSpec : ChangeSpec := { name := "arenaReach", fn := fun _ => fun
  | [d1, d2, d3] => { results := [.lit (.bool true)], args := [d1, d2, d3] }
  | _ => none }
def arenaReachRow : OpenClaim := { program := "ytjndhjmbdhfclaa", sum := "3db2a59d5a51ce423493ce1010807259daf4bc2da7330b96e370dd99c56b68b4", func := "scrinium/scriniumlaw6.ArenaReach", spec := "arenaReach", recurses := true, apart := false }
def ArenaReachSaid : Prop := arenaReachRow.holds Try.pinned (OpenSpec.ofChange arenaReachSpec)

/-- ITS FALSE NEIGHBOUR: 'it returns false'. Refute it at one input. -/
def arenaReachWrong : ChangeSpec := { name := "arenaReach", fn := fun _ => fun
  | [d1, d2, d3] => { results := [.lit (.bool false)], args := [d1, d2, d3] }
  | _ => none }
def ArenaReachWrongFalsely : Prop := arenaReachRow.holds Try.pinned (OpenSpec.ofChange arenaReachWrong)

/-- 'scriniumlaw6.ArenaChain': WHATEVER THE INPUT: true; the input reads as it did. -/
def arenaChainSpec : ChangeSpec := { name := "arenaChain", fn := fun _ => fun
  | [d1, d2] => { results := [.lit (.bool true)], args := [d1, d2] }
  | _ => none }
def arenaChainRow : OpenClaim := { program := "ytjndhjmbdhfclaa", sum := "3db2a59d5a51ce423493ce1010807259daf4bc2da7330b96e370dd99c56b68b4", func := "scrinium/scriniumlaw6.ArenaChain", spec := "arenaChain", recurses := true, apart := false }
def ArenaChainSaid : Prop := arenaChainRow.holds Try.pinned (OpenSpec.ofChange arenaChainSpec)

/-- ITS FALSE NEIGHBOUR: 'it returns false'. Refute it at one input. -/
def arenaChainWrong : ChangeSpec := { name := "arenaChain", fn := fun _ => fun
  | [d1, d2] => { results := [.lit (.bool false)], args := [d1, d2] }
  | _ => none }
def ArenaChainWrongFalsely : Prop := arenaChainRow.holds Try.pinned (OpenSpec.ofChange arenaChainWrong)

/-- 'scriniumlaw18.PinsMany': WHATEVER THE INPUT: true; the input reads as it did. -/
def pinsManySpec : ChangeSpec := { name := "pinsMany", fn := fun _ => fun
  | [d] => { results := [.lit (.bool true)], args := [d] }
  | _ => none }
def pinsManyRow : OpenClaim := { program := "ytjndhjmbdhfclaa", sum := "3db2a59d5a51ce423493ce1010807259daf4bc2da7330b96e370dd99c56b68b4", func := "scrinium/scriniumlaw18.PinsMany", spec := "pinsMany", recurses := true, apart := false }
def PinsManySaid : Prop := pinsManyRow.holds Try.pinned (OpenSpec.ofChange pinsManySpec)

/-- ITS FALSE NEIGHBOUR: 'it returns false'. Refute it at one input. -/
def pinsManyWrong : ChangeSpec := { name := "pinsMany", fn := fun _ => fun
  | [d] => { results := [.lit (.bool false)], args := [d] }
  | _ => none }
def PinsManyWrongFalsely : Prop := pinsManyRow.holds Try.pinned (OpenSpec.ofChange pinsManyWrong)

/-- 'scriniumlaw18.PinsNone': WHATEVER THE INPUT: true; the input reads as it did. -/
def pinsNoneSpec : ChangeSpec := { name := "pinsNone", fn := fun _ => fun
  | [d1, d2] => { results := [.lit (.bool true)], args := [d1, d2] }
  | _ => none }
def pinsNoneRow : OpenClaim := { program := "ytjndhjmbdhfclaa", sum := "3db2a59d5a51ce423493ce1010807259daf4bc2da7330b96e370dd99c56b68b4", func := "scrinium/scriniumlaw18.PinsNone", spec := "pinsNone", recurses := true, apart := false }
def PinsNoneSaid : Prop := pinsNoneRow.holds Try.pinned (OpenSpec.ofChange pinsNoneSpec)

/-- ITS FALSE NEIGHBOUR: 'it returns false'. Refute it at one input. -/
def pinsNoneWrong : ChangeSpec := { name := "pinsNone", fn := fun _ => fun
  | [d1, d2] => { results := [.lit (.bool false)], args := [d1, d2] }
  | _ => none }
def PinsNoneWrongFalsely : Prop := pinsNoneRow.holds Try.pinned (OpenSpec.ofChange pinsNoneWrong)

/-- 'scriniumlaw18.PinsPlays': WHATEVER THE INPUT: true; the input reads as it did. -/
def pinsPlaysSpec : ChangeSpec := { name := "pinsPlays", fn := fun _ => fun
  | [d1, d2] => { results := [.lit (.bool true)], args := [d1, d2] }
  | _ => none }
def pinsPlaysRow : OpenClaim := { program := "ytjndhjmbdhfclaa", sum := "3db2a59d5a51ce423493ce1010807259daf4bc2da7330b96e370dd99c56b68b4", func := "scrinium/scriniumlaw18.PinsPlays", spec := "pinsPlays", recurses := true, apart := false }
def PinsPlaysSaid : Prop := pinsPlaysRow.holds Try.pinned (OpenSpec.ofChange pinsPlaysSpec)

/-- ITS FALSE NEIGHBOUR: 'it returns false'. Refute it at one input. -/
def pinsPlaysWrong : ChangeSpec := { name := "pinsPlays", fn := fun _ => fun
  | [d1, d2] => { results := [.lit (.bool false)], args := [d1, d2] }
  | _ => none }
def PinsPlaysWrongFalsely : Prop := pinsPlaysRow.holds Try.pinned (OpenSpec.ofChange pinsPlaysWrong)

/-- 'scriniumlaw18.PinsLast': WHATEVER THE INPUT: true; the input reads as it did. -/
def pinsLastSpec : ChangeSpec := { name := "pinsLast", fn := fun _ => fun
  | [d1, d2] => { results := [.lit (.bool true)], args := [d1, d2] }
  | _ => none }
def pinsLastRow : OpenClaim := { program := "ytjndhjmbdhfclaa", sum := "3db2a59d5a51ce423493ce1010807259daf4bc2da7330b96e370dd99c56b68b4", func := "scrinium/scriniumlaw18.PinsLast", spec := "pinsLast", recurses := true, apart := false }
def PinsLastSaid : Prop := pinsLastRow.holds Try.pinned (OpenSpec.ofChange pinsLastSpec)

/-- ITS FALSE NEIGHBOUR: 'it returns false'. Refute it at one input. -/
def pinsLastWrong : ChangeSpec := { name := "pinsLast", fn := fun _ => fun
  | [d1, d2] => { results := [.lit (.bool false)], args := [d1, d2] }
  | _ => none }
def PinsLastWrongFalsely : Prop := pinsLastRow.holds Try.pinned (OpenSpec.ofChange pinsLastWrong)

/-- 'scriniumlaw19.SweepLies': WHATEVER THE INPUT: true; the input reads as it did. -/
def sweepLiesSpec : ChangeSpec := { name := "sweepLies", fn := fun _ => fun
  | [d1, d2, d3] => { results := [.lit (.bool true)], args := [d1, d2, d3] }
  | _ => none }
def sweepLiesRow : OpenClaim := { program := "ytjndhjmbdhfclaa", sum := "3db2a59d5a51ce423493ce1010807259daf4bc2da7330b96e370dd99c56b68b4", func := "scrinium/scriniumlaw19.SweepLies", spec := "sweepLies", unfollowed := true, recurses := true, apart := false }
def SweepLiesSaid : Prop := sweepLiesRow.holds Try.pinned (OpenSpec.ofChange sweepLiesSpec)

/-- ITS FALSE NEIGHBOUR: 'it returns false'. Refute it at one input. -/
def sweepLiesWrong : ChangeSpec := { name := "sweepLies", fn := fun _ => fun
  | [d1, d2, d3] => { results := [.lit (.bool false)], args := [d1, d2, d3] }
  | _ => none }
def SweepLiesWrongFalsely : Prop := sweepLiesRow.holds Try.pinned (OpenSpec.ofChange sweepLiesWrong)

/-- 'scriniumlaw19.SweepDrops': WHATEVER THE INPUT: true; the input reads as it did. -/
def sweepDropsSpec : ChangeSpec := { name := "sweepDrops", fn := fun _ => fun
  | [d1, d2] => { results := [.lit (.bool true)], args := [d1, d2] }
  | _ => none }
def sweepDropsRow : OpenClaim := { program := "ytjndhjmbdhfclaa", sum := "3db2a59d5a51ce423493ce1010807259daf4bc2da7330b96e370dd99c56b68b4", func := "scrinium/scriniumlaw19.SweepDrops", spec := "sweepDrops", unfollowed := true, recurses := true, apart := false }
def SweepDropsSaid : Prop := sweepDropsRow.holds Try.pinned (OpenSpec.ofChange sweepDropsSpec)

/-- ITS FALSE NEIGHBOUR: 'it returns false'. Refute it at one input. -/
def sweepDropsWrong : ChangeSpec := { name := "sweepDrops", fn := fun _ => fun
  | [d1, d2] => { results := [.lit (.bool false)], args := [d1, d2] }
  | _ => none }
def SweepDropsWrongFalsely : Prop := sweepDropsRow.holds Try.pinned (OpenSpec.ofChange sweepDropsWrong)

/-- 'scriniumlaw19.SweepWaits': WHATEVER THE INPUT: true; the input reads as it did. -/
def sweepWaitsSpec : ChangeSpec := { name := "sweepWaits", fn := fun _ => fun
  | [d1, d2] => { results := [.lit (.bool true)], args := [d1, d2] }
  | _ => none }
def sweepWaitsRow : OpenClaim := { program := "ytjndhjmbdhfclaa", sum := "3db2a59d5a51ce423493ce1010807259daf4bc2da7330b96e370dd99c56b68b4", func := "scrinium/scriniumlaw19.SweepWaits", spec := "sweepWaits", unfollowed := true, recurses := true, apart := false }
def SweepWaitsSaid : Prop := sweepWaitsRow.holds Try.pinned (OpenSpec.ofChange sweepWaitsSpec)

/-- ITS FALSE NEIGHBOUR: 'it returns false'. Refute it at one input. -/
def sweepWaitsWrong : ChangeSpec := { name := "sweepWaits", fn := fun _ => fun
  | [d1, d2] => { results := [.lit (.bool false)], args := [d1, d2] }
  | _ => none }
def SweepWaitsWrongFalsely : Prop := sweepWaitsRow.holds Try.pinned (OpenSpec.ofChange sweepWaitsWrong)

/- THE SECOND FORM. 'bulk': how many values and letters a reading holds, each counted each time it is reached (what is shared counts as often as it is met; a slice's spare places count too). A statement '..UptoSaid' is the law's where the arguments, and the package variables that the reading takes, are together of bulk at most 1048576: NARROWER than '..Said'. Prove '..Said' where nothing that the law and all that it calls make is longer than what came in: it says more and counts as full. Else prove '..UptoSaid'. A law counts once. -/
mutual
def uptoBulk {H : Type} : DataW H → Nat
  | .lit (.string bytes) => bytes.length + 1
  | .lit _ => 1
  | .nil => 1
  | .ptr d => uptoBulk d + 1
  | .slice elems spare => uptoBulkAll elems + uptoBulkAll spare + 1
  | .agg parts => uptoBulkAll parts + 1
  | .iface _ d => uptoBulk d + 1
  | .map entries => uptoBulkEntries entries + 1
  | .held _ => 1
def uptoBulkAll {H : Type} : List (DataW H) → Nat
  | [] => 0
  | d :: r => uptoBulk d + uptoBulkAll r
def uptoBulkEntries {H : Type} : List (Lit × DataW H) → Nat
  | [] => 0
  | x :: r => uptoBulkEntry x + uptoBulkEntries r
def uptoBulkEntry {H : Type} : Lit × DataW H → Nat
  | (.string bytes, d) => bytes.length + uptoBulk d + 1
  | (_, d) => uptoBulk d + 1
 end
def uptoSmall : (H : Type) → List (DataW H) → Bool := fun _ ds => decide (uptoBulkAll ds ≤ 1048576)
def OpenSpec.upto (s : _root_.Go.ChangeSpec) : _root_.Go.OpenSpec := { _root_.Go.OpenSpec.ofChange s with cond := some uptoSmall }

/-- 'scriniumlaw6.ArenaReach', WHERE WHAT IT READS IS OF BULK AT MOST 1048576: true; the input reads as it did. -/
def arenaReachUptoRow : OpenClaim := { program := "ytjndhjmbdhfclaa", sum := "3db2a59d5a51ce423493ce1010807259daf4bc2da7330b96e370dd99c56b68b4", func := "scrinium/scriniumlaw6.ArenaReach", spec := "arenaReach", recurses := true, apart := false, narrowed := true }
def ArenaReachUptoSaid : Prop := arenaReachUptoRow.holds Try.pinned (OpenSpec.upto arenaReachSpec)

/-- 'scriniumlaw6.ArenaChain', WHERE WHAT IT READS IS OF BULK AT MOST 1048576: true; the input reads as it did. -/
def arenaChainUptoRow : OpenClaim := { program := "ytjndhjmbdhfclaa", sum := "3db2a59d5a51ce423493ce1010807259daf4bc2da7330b96e370dd99c56b68b4", func := "scrinium/scriniumlaw6.ArenaChain", spec := "arenaChain", recurses := true, apart := false, narrowed := true }
def ArenaChainUptoSaid : Prop := arenaChainUptoRow.holds Try.pinned (OpenSpec.upto arenaChainSpec)

/-- 'scriniumlaw18.PinsMany', WHERE WHAT IT READS IS OF BULK AT MOST 1048576: true; the input reads as it did. -/
def pinsManyUptoRow : OpenClaim := { program := "ytjndhjmbdhfclaa", sum := "3db2a59d5a51ce423493ce1010807259daf4bc2da7330b96e370dd99c56b68b4", func := "scrinium/scriniumlaw18.PinsMany", spec := "pinsMany", recurses := true, apart := false, narrowed := true }
def PinsManyUptoSaid : Prop := pinsManyUptoRow.holds Try.pinned (OpenSpec.upto pinsManySpec)

/-- 'scriniumlaw18.PinsNone', WHERE WHAT IT READS IS OF BULK AT MOST 1048576: true; the input reads as it did. -/
def pinsNoneUptoRow : OpenClaim := { program := "ytjndhjmbdhfclaa", sum := "3db2a59d5a51ce423493ce1010807259daf4bc2da7330b96e370dd99c56b68b4", func := "scrinium/scriniumlaw18.PinsNone", spec := "pinsNone", recurses := true, apart := false, narrowed := true }
def PinsNoneUptoSaid : Prop := pinsNoneUptoRow.holds Try.pinned (OpenSpec.upto pinsNoneSpec)

/-- 'scriniumlaw18.PinsPlays', WHERE WHAT IT READS IS OF BULK AT MOST 1048576: true; the input reads as it did. -/
def pinsPlaysUptoRow : OpenClaim := { program := "ytjndhjmbdhfclaa", sum := "3db2a59d5a51ce423493ce1010807259daf4bc2da7330b96e370dd99c56b68b4", func := "scrinium/scriniumlaw18.PinsPlays", spec := "pinsPlays", recurses := true, apart := false, narrowed := true }
def PinsPlaysUptoSaid : Prop := pinsPlaysUptoRow.holds Try.pinned (OpenSpec.upto pinsPlaysSpec)

/-- 'scriniumlaw18.PinsLast', WHERE WHAT IT READS IS OF BULK AT MOST 1048576: true; the input reads as it did. -/
def pinsLastUptoRow : OpenClaim := { program := "ytjndhjmbdhfclaa", sum := "3db2a59d5a51ce423493ce1010807259daf4bc2da7330b96e370dd99c56b68b4", func := "scrinium/scriniumlaw18.PinsLast", spec := "pinsLast", recurses := true, apart := false, narrowed := true }
def PinsLastUptoSaid : Prop := pinsLastUptoRow.holds Try.pinned (OpenSpec.upto pinsLastSpec)

/-- 'scriniumlaw19.SweepLies', WHERE WHAT IT READS IS OF BULK AT MOST 1048576: true; the input reads as it did. -/
def sweepLiesUptoRow : OpenClaim := { program := "ytjndhjmbdhfclaa", sum := "3db2a59d5a51ce423493ce1010807259daf4bc2da7330b96e370dd99c56b68b4", func := "scrinium/scriniumlaw19.SweepLies", spec := "sweepLies", unfollowed := true, recurses := true, apart := false, narrowed := true }
def SweepLiesUptoSaid : Prop := sweepLiesUptoRow.holds Try.pinned (OpenSpec.upto sweepLiesSpec)

/-- 'scriniumlaw19.SweepDrops', WHERE WHAT IT READS IS OF BULK AT MOST 1048576: true; the input reads as it did. -/
def sweepDropsUptoRow : OpenClaim := { program := "ytjndhjmbdhfclaa", sum := "3db2a59d5a51ce423493ce1010807259daf4bc2da7330b96e370dd99c56b68b4", func := "scrinium/scriniumlaw19.SweepDrops", spec := "sweepDrops", unfollowed := true, recurses := true, apart := false, narrowed := true }
def SweepDropsUptoSaid : Prop := sweepDropsUptoRow.holds Try.pinned (OpenSpec.upto sweepDropsSpec)

/-- 'scriniumlaw19.SweepWaits', WHERE WHAT IT READS IS OF BULK AT MOST 1048576: true; the input reads as it did. -/
def sweepWaitsUptoRow : OpenClaim := { program := "ytjndhjmbdhfclaa", sum := "3db2a59d5a51ce423493ce1010807259daf4bc2da7330b96e370dd99c56b68b4", func := "scrinium/scriniumlaw19.SweepWaits", spec := "sweepWaits", unfollowed := true, recurses := true, apart := false, narrowed := true }
def SweepWaitsUptoSaid : Prop := sweepWaitsUptoRow.holds Try.pinned (OpenSpec.upto sweepWaitsSpec)

end Rows
end Go.Proofs.Ytjndhjmbdhfclaa
