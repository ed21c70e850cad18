/- Package leaf: what its functions answer of a few bits: the first bits of a word; whether there may be a leaf; how many are 1. -/
import Derived.Test.YtjfeocoengheaaaA7
import Derived.Test.YtjfeocoengheaaaPop
import Derived.Test.YtjfeocoengheaaaProg
import Derived.Lib.Hide
import Derived.Deep.QuietTactic
import Derived.BigQuiet
import Derived.StillTailTactics
namespace Go.Proofs.Ytjfeocoengheaaa
set_option maxRecDepth 100000
open Go.RowKit
theorem below_drewN {B : Nat} {a w : World} (h : Below B a w) (n : Nat) : Below B a (w.drewN n) := ⟨h.os, h.tape, h.output, h.size, h.block⟩

theorem pow_lt64 {n : Nat} (h : n ≤ 64) : (2 : Int) ^ n ≤ 18446744073709551616 := by
  have := Nat.pow_le_pow_right (n := 2) (by decide) h
  rw [← cast_pow]
  omega
theorem pow_pos' (n : Nat) : (1 : Int) ≤ (2 : Int) ^ n := by
  have := Nat.two_pow_pos n
  rw [← cast_pow]
  omega
theorem pow_lt63 {n : Nat} (h : n < 64) : (2 : Int) ^ n ≤ 9223372036854775808 := by
  have := Nat.pow_le_pow_right (n := 2) (by decide) (show n ≤ 63 by omega)
  rw [← cast_pow]
  omega
set_option maxHeartbeats 1000000 in
theorem first_is (n : Nat) (w : World) (h : n ≤ 64) :
    Calls Try.prog 52 #[.int .i64 n] w fun e w' => e = .returned (.int .u64 ((2 : Int) ^ n - 1)) ∧ w = w' := by
  by_cases c : n = 64
  · subst c
    go_enter Try.func52, Try.ntmps52
    go_wp2_with fail
    go_ret
    exact ⟨rfl, rfl⟩
  · have h1 : n < 64 := by omega
    have h2 := Lib.hid (pow_lt63 h1)
    have h3 := Lib.hid (pow_pos' n)
    clear c h
    go_enter Try.func52, Try.ntmps52
    go_wp2_with fail
    go_ret
    refine ⟨?_, rfl⟩
    show Ending.returned (.int .u64 (IntKind.u64.wrap (IntKind.u64.wrap ((2 : Int) ^ n) - 1))) = _
    have h2 := h2.out
    have h3 := h3.out
    rw [wraps_u64 ((2 : Int) ^ n) (by omega) (by omega), wraps_u64 _ (by omega) (by omega)]
set_option maxHeartbeats 1000000 in
theorem right_is (l : List Bool) (w : World) (h : l.length ≤ 64) :
    Calls Try.prog 50 #[.agg #[.int .u64 (bN l), .int .i64 l.length]] w fun e w' => e = .returned (.bool true) ∧ Below w.heap.size w w' := by
  have hb := Lib.hid (bits_over h)
  generalize hn : l.length = n at *
  generalize hx : (bN l : Int) = x at *
  have H := fun w => Lib.hid (first_is n w h)
  have hz : n ≤ 64 := h
  have hd : decide ((n : Int) ≤ 64) = true := decide_eq_true (by omega)
  have H0 := Lib.hid hb
  clear hn hx h
  go_enter Try.func50, Try.ntmps50
  go_wp2_with fail
  go_quiet ((go_at_call 52; exact Calls.quiet_of_same ((H _).out.mono fun e w' q => ⟨q.1, q.2.symm⟩)))
  go_wp2_with fail
  go_ret
  refine ⟨?_, below_drewN ((Below.refl w.heap.size w).alloc (Nat.le_refl _) _) _⟩
  show Ending.returned (.bool (bits BinOp.andNot IntKind.u64 x (2 ^ n - 1) == 0)) = _
  rw [H0.out]
  rfl
set_option maxHeartbeats 1000000 in
theorem pop_is (l : List Bool) (w : World) (h : l.length ≤ 64) :
    Calls Try.prog 51 #[.int .u64 (bN l)] w fun e w' => e = .returned (.int .i64 (l.count true)) ∧ w = w' := by
  have Hs := Lib.hid (swI_is h)
  have x0 : 0 ≤ (bN l : Int) := by omega
  have x1 : (bN l : Int) < 18446744073709551616 := by have := bN_lt64 h; omega
  clear h
  generalize (bN l : Int) = x at *
  go_enter Try.func51, Try.ntmps51
  go_wp2_with fail
  go_ret
  refine ⟨?_, rfl⟩
  rw [← IntWalk.i64_left]
  show Ending.returned (.int .i64 (swI x)) = _
  rw [Hs.out]
end Go.Proofs.Ytjfeocoengheaaa
