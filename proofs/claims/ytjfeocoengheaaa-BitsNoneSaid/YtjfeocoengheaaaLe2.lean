/- Package leaf: a bit; how many of the first ones are 1; the first bits, and the others. -/
import Derived.Test.YtjfeocoengheaaaLe1
import Derived.Deep.RegionHeld3
namespace Go.Proofs.Ytjfeocoengheaaa
set_option maxRecDepth 100000
open Go.RowKit

set_option maxHeartbeats 1000000 in
theorem lget_is (l : List Bool) (i : Nat) (w : World) (h : l.length ≤ 64) (hi : i < l.length) :
    Calls Try.prog 37 #[.agg #[.int .u64 (bN l), .int .i64 l.length], .int .i64 i] w fun e w' => e = .returned (.bool (l.getD i false)) ∧ Below w.heap.size w w' := by
  have hv := Lib.hid (bits_get (i := i) h)
  have HR := fun w => Lib.hid (right_is l w h)
  generalize hg : l.getD i false = g at *
  generalize hn : l.length = n at *
  generalize hx : (bN l : Int) = x at *
  have hd : decide ((i : Int) < (n : Int)) = true := decide_eq_true (by omega)
  have hs : (i : Int) ≤ 64 := by omega
  clear hn hx h hg
  go_enter Try.func37, Try.ntmps37
  go_wp2_with fail
  have hx0 := heap_alloc_new w (.cells #[.int .u64 x, .int .i64 n] 66)
  refine (HR _).out.mono ?_
  rintro e w1 ⟨rfl, hb⟩
  have hx1 := (hb.block _ (by simp)).trans hx0
  have c0 : w1.cell? ⟨w.heap.size, 0, none⟩ = some (.int .u64 x) := cell_of_row _ _ _ _ _ _ hx1
  have c1 : w1.cell? ⟨w.heap.size, 1, none⟩ = some (.int .i64 n) := cell_of_row _ _ _ _ _ _ hx1
  have hfin := Lib.hid (((Below.refl w.heap.size w).alloc (Nat.le_refl _) (.cells #[.int .u64 x, .int .i64 n] 66)).trans (hb.mono (by simp)))
  clear hx1 hx0 hb
  go_wp2_with fail
  go_ret
  refine ⟨?_, hfin.out⟩
  show Ending.returned (.bool (bits BinOp.and IntKind.u64 (x / 2 ^ i) 1 == 1)) = _
  rw [hv.out]
  cases g <;> rfl
set_option maxHeartbeats 2000000 in
theorem lrank_is (l : List Bool) (i : Nat) (w : World) (h : l.length ≤ 64) (hi : i ≤ l.length) :
    Calls Try.prog 38 #[.agg #[.int .u64 (bN l), .int .i64 l.length], .int .i64 i] w fun e w' => e = .returned (.int .i64 ((l.take i).count true)) ∧ Below w.heap.size w w' := by
  have hv := bits_take (i := i) h (by omega)
  have HR := fun w => Lib.hid (right_is l w h)
  have HF := fun w => Lib.hid (first_is i w (by omega))
  have HP := fun w => Lib.hid (pop_is (l.take i) w (by rw [List.length_take]; omega))
  rw [← hv] at HP
  clear hv
  generalize hn : l.length = n at *
  generalize hx : (bN l : Int) = x at *
  generalize hc : (l.take i).count true = c at *
  have hm : min (i : Int) (n : Int) = i := by omega
  have hM : max (i : Int) 0 = i := by omega
  have hm' := Lib.hid hm
  have hM' := Lib.hid hM
  clear hn hx h hc hm hM
  go_enter Try.func38, Try.ntmps38
  go_wp2_with fail
  have hx0 := heap_alloc_new w (.cells #[.int .u64 x, .int .i64 n] 66)
  refine (HR _).out.mono ?_
  rintro e w1 ⟨rfl, hb⟩
  have hx1 := (hb.block _ (by simp)).trans hx0
  have c0 : w1.cell? ⟨w.heap.size, 0, none⟩ = some (.int .u64 x) := cell_of_row _ _ _ _ _ _ hx1
  have c1 : w1.cell? ⟨w.heap.size, 1, none⟩ = some (.int .i64 n) := cell_of_row _ _ _ _ _ _ hx1
  have hfin := Lib.hid (((Below.refl w.heap.size w).alloc (Nat.le_refl _) (.cells #[.int .u64 x, .int .i64 n] 66)).trans (hb.mono (by simp)))
  clear hx1 hx0 hb HR
  go_wp2_with fail
  go_quiet ((first | (go_at_call 52; exact Calls.quiet_of_same ((HF _).out.mono fun e w' q => ⟨q.1, q.2.symm⟩)) | (go_at_call 51; exact Calls.quiet_of_same ((HP _).out.mono fun e w' q => ⟨q.1, q.2.symm⟩))))
  go_wp2_with fail
  go_ret
  exact ⟨rfl, below_drewN hfin.out _⟩
end Go.Proofs.Ytjfeocoengheaaa
