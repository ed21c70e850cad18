/- Package leaf: the first bits of a leaf, and the others. -/
import Derived.Test.YtjfeocoengheaaaLe2
namespace Go.Proofs.Ytjfeocoengheaaa
set_option maxRecDepth 100000
open Go.RowKit

theorem al3_0 (w : World) (a b c : Obj) : (((w.alloc a).alloc b).alloc c).heap[w.heap.size]? = some a := by
  rw [Below.heap_alloc _ _ _ (by simp; omega), Below.heap_alloc _ _ _ (by simp)]; exact heap_alloc_new _ _
theorem al3_1 (w : World) (a b c : Obj) : (((w.alloc a).alloc b).alloc c).heap[w.heap.size + 1]? = some b := by
  rw [Below.heap_alloc _ _ _ (by simp)]
  have := heap_alloc_new (w.alloc a) b
  simpa using this
theorem al3_2 (w : World) (a b c : Obj) : (((w.alloc a).alloc b).alloc c).heap[w.heap.size + 1 + 1]? = some c := by
  have := heap_alloc_new ((w.alloc a).alloc b) c
  simpa using this
theorem keep2 {W : World} {b0 b1 : Nat} {x n : Value} (h : W.drew.cell? ⟨b0, 0, none⟩ = some x ∧ W.drew.cell? ⟨b0, 1, none⟩ = some n) (ne : b0 ≠ b1) (a b : Value) :
    ((W.setCell ⟨b1, 0, none⟩ a).setCell ⟨b1, 1, none⟩ b).drew.cell? ⟨b0, 0, none⟩ = some x ∧ ((W.setCell ⟨b1, 0, none⟩ a).setCell ⟨b1, 1, none⟩ b).drew.cell? ⟨b0, 1, none⟩ = some n := by
  have e : ((W.setCell ⟨b1, 0, none⟩ a).setCell ⟨b1, 1, none⟩ b).heap[b0]? = W.heap[b0]? := (heap_setCell_other _ _ _ _ ne).trans (heap_setCell_other _ _ _ _ ne)
  exact ⟨(World.cell?_of_block e).trans h.1, (World.cell?_of_block e).trans h.2⟩
set_option maxHeartbeats 2000000 in
theorem lsplit_is (l : List Bool) (i : Nat) (w : World) (h : l.length ≤ 64) (hi : i ≤ l.length) :
    Calls Try.prog 53 #[.agg #[.int .u64 (bN l), .int .i64 l.length], .int .i64 i] w fun e w' =>
      e = .returned (.tuple #[.agg #[.int .u64 (bN (l.take i)), .int .i64 i], .agg #[.int .u64 (bN (l.drop i)), .int .i64 (l.length - i : Nat)]]) ∧ Below w.heap.size w w' := by
  have hv := Lib.hid (bits_take (i := i) h (by omega))
  have hd := Lib.hid (bits_drop (l := l) (i := i))
  have HR := fun w => Lib.hid (right_is l w h)
  have HF := fun w => Lib.hid (first_is i w (by omega))
  have hw : IntKind.i64.wrap ((l.length : Int) - (i : Int)) = ((l.length - i : Nat) : Int) := by
    rw [IntWalk.i64_left, IntWalk.wrap64_in _ (by omega)]; omega
  generalize hn : l.length = n at *
  generalize hx : (bN l : Int) = x at *
  generalize hy : (bN (l.take i) : Int) = y at *
  generalize hz : (bN (l.drop i) : Int) = z at *
  have hs : (i : Int) ≤ 64 := by omega
  have hnm : n - i = n - i := rfl
  generalize hm : n - i = m at *
  have HW := Lib.hid hw
  have Hm := Lib.hid hm
  clear hn hx h hy hz hw hm hnm
  go_enter Try.func53, Try.ntmps53
  go_wp2_with fail
  have hx0 := heap_alloc_new w (.cells #[.int .u64 x, .int .i64 n] 66)
  refine (HR _).out.mono ?_
  rintro e w1 ⟨rfl, hb⟩
  have hx1 := (hb.block w.heap.size (by simp; omega)).trans (show (((w.alloc (.cells #[.int .u64 x, .int .i64 n] 66)).alloc (.cells #[.int .u64 0, .int .i64 0] 66)).alloc (.cells #[.int .u64 0, .int .i64 0] 66)).heap[w.heap.size]? = some (.cells #[.int .u64 x, .int .i64 n] 66) from al3_0 w _ _ _)
  have hy1 := (hb.block (w.heap.size + 1) (by simp)).trans (al3_1 w (.cells #[.int .u64 x, .int .i64 n] 66) (.cells #[.int .u64 0, .int .i64 0] 66) (.cells #[.int .u64 0, .int .i64 0] 66))
  have hz1 := (hb.block (w.heap.size + 1 + 1) (by simp)).trans (al3_2 w (.cells #[.int .u64 x, .int .i64 n] 66) (.cells #[.int .u64 0, .int .i64 0] 66) (.cells #[.int .u64 0, .int .i64 0] 66))
  have hfin := Lib.hid (((((Below.refl w.heap.size w).alloc (Nat.le_refl _) (.cells #[.int .u64 x, .int .i64 n] 66)).alloc (by simp) (.cells #[.int .u64 0, .int .i64 0] 66)).alloc (by simp; omega) (.cells #[.int .u64 0, .int .i64 0] 66)).trans (hb.mono (by simp; omega)))
  have q1 : w.heap.size ≠ w.heap.size + 1 := by omega
  have q2 : w.heap.size ≠ w.heap.size + 1 + 1 := by omega
  have q3 : w.heap.size + 1 ≠ w.heap.size + 1 + 1 := by omega
  have q4 : w.heap.size ≤ w.heap.size + 1 := by omega
  have q5 : w.heap.size ≤ w.heap.size + 1 + 1 := by omega
  clear hb hx0
  generalize hg1 : w.heap.size + 1 + 1 = b2 at *
  generalize hg2 : w.heap.size + 1 = b1 at *
  generalize hg3 : w.heap.size = b0 at *
  clear hg1 hg2
  have c0 : w1.cell? ⟨b0, 0, none⟩ = some (.int .u64 x) := cell_of_row _ _ _ _ _ _ hx1
  have c1 : w1.cell? ⟨b0, 1, none⟩ = some (.int .i64 n) := cell_of_row _ _ _ _ _ _ hx1
  have d0 : w1.cell? ⟨b1, 0, none⟩ = some (.int .u64 0) := cell_of_row _ _ _ _ _ _ hy1
  have d1 : w1.cell? ⟨b1, 1, none⟩ = some (.int .i64 0) := cell_of_row _ _ _ _ _ _ hy1
  have df : ∀ j, w1.frozen? ⟨b1, j, none⟩ = false := fun j => frozen_of_row _ _ _ _ _ hy1
  have e0 : w1.cell? ⟨b2, 0, none⟩ = some (.int .u64 0) := cell_of_row _ _ _ _ _ _ hz1
  have e1 : w1.cell? ⟨b2, 1, none⟩ = some (.int .i64 0) := cell_of_row _ _ _ _ _ _ hz1
  have ef : ∀ j, w1.frozen? ⟨b2, j, none⟩ = false := fun j => frozen_of_row _ _ _ _ _ hz1
  have hM : max (i : Int) 0 = i := by omega
  have hm1 : min (i : Int) (n : Int) = i := by omega
  have hle : (i : Int) ≤ (n : Int) := by omega
  clear hx1 hy1 hz1
  have HW := HW.out
  go_wp2_with fail
  go_region_held3 (fun w' => w'.cell? ⟨b0, 0, none⟩ = some (.int .u64 x) ∧ w'.cell? ⟨b0, 1, none⟩ = some (.int .i64 n)) (first | assumption | (with_reducible exact keep2 (by assumption) q1 _ _) | (with_reducible exact keep2 (by assumption) q2 _ _) | exact ⟨c0, c1⟩) ((go_at_call 52; refine (HF _).out.mono ?_; rintro e w' ⟨rfl, rfl⟩))
  all_goals go_wp2_with fail
  refine bodyPost_ret (v := .tuple #[.agg #[.int .u64 (bits BinOp.and IntKind.u64 x (2 ^ i - 1)), .int .i64 i], .agg #[.int .u64 (x / 2 ^ i), .int .i64 m]]) (by simp [results, Try.results53, go_sem, d0, d1, e0, e1]) rfl ⟨?_, ?_⟩
  · rw [hv.out, hd.out]
  · rw [hg3]
    exact ((((hfin.out.setCell (p := ⟨b1, 0, none⟩) q4 _).setCell (p := ⟨b1, 1, none⟩) q4 _).setCell (p := ⟨b2, 0, none⟩) q5 _).setCell (p := ⟨b2, 1, none⟩) q5 _).drew
set_option maxHeartbeats 2000000 in
theorem ljoin_yes (a b : List Bool) (w : World) (h : a.length + b.length ≤ 64) :
    Calls Try.prog 61 #[.agg #[.int .u64 (bN a), .int .i64 a.length], .agg #[.int .u64 (bN b), .int .i64 b.length]] w fun e w' =>
      e = .returned (.tuple #[.agg #[.int .u64 (bN (a ++ b)), .int .i64 (a.length + b.length : Nat)], .bool true]) ∧ Below w.heap.size w w' := by
  have hv := Lib.hid (bits_join_list h)
  have HR := fun w => Lib.hid (right_is a w (by omega))
  have HR' := fun w => Lib.hid (right_is b w (by omega))
  generalize hn : a.length = n at *
  generalize hm : b.length = m at *
  generalize hx : (bN a : Int) = x at *
  generalize hy : (bN b : Int) = y at *
  generalize hz : (bN (a ++ b) : Int) = z at *
  have hs : (n : Int) + (m : Int) ≤ 64 := by omega
  have hn0 : (0 : Int) ≤ (n : Int) := by omega
  have hn1 : (n : Int) ≤ 64 := by omega
  have hm1 : (m : Int) ≤ 64 := by omega
  clear hn hm hx hy hz h
  go_enter Try.func61, Try.ntmps61
  go_wp2_with fail
  refine (HR _).out.mono ?_
  rintro e w1 ⟨rfl, hb⟩
  have hx1 := (hb.block w.heap.size (by simp; omega)).trans (al3_0 w (.cells #[.int .u64 x, .int .i64 n] 66) (.cells #[.int .u64 y, .int .i64 m] 66) (.cells #[.int .u64 0, .int .i64 0] 66))
  have hy1 := (hb.block (w.heap.size + 1) (by simp)).trans (al3_1 w (.cells #[.int .u64 x, .int .i64 n] 66) (.cells #[.int .u64 y, .int .i64 m] 66) (.cells #[.int .u64 0, .int .i64 0] 66))
  have hz1 := (hb.block (w.heap.size + 1 + 1) (by simp)).trans (al3_2 w (.cells #[.int .u64 x, .int .i64 n] 66) (.cells #[.int .u64 y, .int .i64 m] 66) (.cells #[.int .u64 0, .int .i64 0] 66))
  have hf1 := (((((Below.refl w.heap.size w).alloc (Nat.le_refl _) (.cells #[.int .u64 x, .int .i64 n] 66)).alloc (by simp) (.cells #[.int .u64 y, .int .i64 m] 66)).alloc (by simp; omega) (.cells #[.int .u64 0, .int .i64 0] 66)).trans (hb.mono (by simp; omega)))
  have hs1 : w.heap.size + 1 + 1 < w1.heap.size := by have h : _ ≤ w1.heap.size := hb.size; simp at h; omega
  have u0 : w1.cell? ⟨w.heap.size + 1, 0, none⟩ = some (.int .u64 y) := cell_of_row _ _ _ _ _ _ hy1
  have u1 : w1.cell? ⟨w.heap.size + 1, 1, none⟩ = some (.int .i64 m) := cell_of_row _ _ _ _ _ _ hy1
  clear hb
  go_wp2_with fail
  refine (HR' _).out.mono ?_
  rintro e w2 ⟨rfl, hb⟩
  replace hx1 := (hb.block _ (by omega)).trans hx1
  replace hy1 := (hb.block _ (by omega)).trans hy1
  replace hz1 := (hb.block _ (by omega)).trans hz1
  have hfin := Lib.hid (hf1.trans (hb.mono (by omega)))
  clear hb hf1 u0 u1 hs1
  have q1 : w.heap.size ≠ w.heap.size + 1 := by omega
  have q2 : w.heap.size ≠ w.heap.size + 1 + 1 := by omega
  have q3 : w.heap.size + 1 ≠ w.heap.size + 1 + 1 := by omega
  have q5 : w.heap.size ≤ w.heap.size + 1 + 1 := by omega
  generalize hg1 : w.heap.size + 1 + 1 = b2 at *
  generalize hg2 : w.heap.size + 1 = b1 at *
  generalize hg3 : w.heap.size = b0 at *
  clear hg1 hg2
  have c0 : w2.cell? ⟨b0, 0, none⟩ = some (.int .u64 x) := cell_of_row _ _ _ _ _ _ hx1
  have c1 : w2.cell? ⟨b0, 1, none⟩ = some (.int .i64 n) := cell_of_row _ _ _ _ _ _ hx1
  have d0 : w2.cell? ⟨b1, 0, none⟩ = some (.int .u64 y) := cell_of_row _ _ _ _ _ _ hy1
  have d1 : w2.cell? ⟨b1, 1, none⟩ = some (.int .i64 m) := cell_of_row _ _ _ _ _ _ hy1
  have e0 : w2.cell? ⟨b2, 0, none⟩ = some (.int .u64 0) := cell_of_row _ _ _ _ _ _ hz1
  have e1 : w2.cell? ⟨b2, 1, none⟩ = some (.int .i64 0) := cell_of_row _ _ _ _ _ _ hz1
  have ef : ∀ j, w2.frozen? ⟨b2, j, none⟩ = false := fun j => frozen_of_row _ _ _ _ _ hz1
  clear hx1 hy1 hz1
  go_wp2_with fail
  go_region
  all_goals go_wp2_with fail
  all_goals refine bodyPost_ret (v := .tuple #[.agg #[.int .u64 (bits BinOp.or IntKind.u64 x (IntKind.u64.wrap (y * 2 ^ n))), .int .i64 ((n : Int) + (m : Int))], .bool true]) (by simp [results, Try.results61, go_sem, e0, e1]) rfl ⟨?_, ?_⟩
  · rw [hv.out]; rfl
  · rw [hg3]
    exact ((hfin.out.setCell (p := ⟨b2, 0, none⟩) q5 _).setCell (p := ⟨b2, 1, none⟩) q5 _).drew
set_option maxHeartbeats 2000000 in
theorem ljoin_no (a b : List Bool) (w : World) (ha : a.length ≤ 64) (hb : b.length ≤ 64) (h : 64 < a.length + b.length) :
    Calls Try.prog 61 #[.agg #[.int .u64 (bN a), .int .i64 a.length], .agg #[.int .u64 (bN b), .int .i64 b.length]] w fun e w' =>
      e = .returned (.tuple #[.agg #[.int .u64 0, .int .i64 0], .bool false]) ∧ Below w.heap.size w w' := by
  have HR := fun w => Lib.hid (right_is a w ha)
  have HR' := fun w => Lib.hid (right_is b w hb)
  generalize hn : a.length = n at *
  generalize hm : b.length = m at *
  generalize hx : (bN a : Int) = x at *
  generalize hy : (bN b : Int) = y at *
  have hs : 64 < (n : Int) + (m : Int) := by omega
  have hn0 : (0 : Int) ≤ (n : Int) := by omega
  have hn1 : (n : Int) ≤ 64 := by omega
  have hm1 : (m : Int) ≤ 64 := by omega
  clear hn hm hx hy h ha hb
  go_enter Try.func61, Try.ntmps61
  go_wp2_with fail
  refine (HR _).out.mono ?_
  rintro e w1 ⟨rfl, hb⟩
  have hx1 := (hb.block w.heap.size (by simp; omega)).trans (al3_0 w (.cells #[.int .u64 x, .int .i64 n] 66) (.cells #[.int .u64 y, .int .i64 m] 66) (.cells #[.int .u64 0, .int .i64 0] 66))
  have hy1 := (hb.block (w.heap.size + 1) (by simp)).trans (al3_1 w (.cells #[.int .u64 x, .int .i64 n] 66) (.cells #[.int .u64 y, .int .i64 m] 66) (.cells #[.int .u64 0, .int .i64 0] 66))
  have hz1 := (hb.block (w.heap.size + 1 + 1) (by simp)).trans (al3_2 w (.cells #[.int .u64 x, .int .i64 n] 66) (.cells #[.int .u64 y, .int .i64 m] 66) (.cells #[.int .u64 0, .int .i64 0] 66))
  have hf1 := (((((Below.refl w.heap.size w).alloc (Nat.le_refl _) (.cells #[.int .u64 x, .int .i64 n] 66)).alloc (by simp) (.cells #[.int .u64 y, .int .i64 m] 66)).alloc (by simp; omega) (.cells #[.int .u64 0, .int .i64 0] 66)).trans (hb.mono (by simp; omega)))
  have hs1 : w.heap.size + 1 + 1 < w1.heap.size := by have h : _ ≤ w1.heap.size := hb.size; simp at h; omega
  have u0 : w1.cell? ⟨w.heap.size + 1, 0, none⟩ = some (.int .u64 y) := cell_of_row _ _ _ _ _ _ hy1
  have u1 : w1.cell? ⟨w.heap.size + 1, 1, none⟩ = some (.int .i64 m) := cell_of_row _ _ _ _ _ _ hy1
  clear hb
  go_wp2_with fail
  refine (HR' _).out.mono ?_
  rintro e w2 ⟨rfl, hb⟩
  replace hx1 := (hb.block _ (by omega)).trans hx1
  replace hy1 := (hb.block _ (by omega)).trans hy1
  replace hz1 := (hb.block _ (by omega)).trans hz1
  have hfin := Lib.hid (hf1.trans (hb.mono (by omega)))
  clear hb hf1 u0 u1 hs1
  have q1 : w.heap.size ≠ w.heap.size + 1 := by omega
  have q2 : w.heap.size ≠ w.heap.size + 1 + 1 := by omega
  have q3 : w.heap.size + 1 ≠ w.heap.size + 1 + 1 := by omega
  have q5 : w.heap.size ≤ w.heap.size + 1 + 1 := by omega
  generalize hg1 : w.heap.size + 1 + 1 = b2 at *
  generalize hg2 : w.heap.size + 1 = b1 at *
  generalize hg3 : w.heap.size = b0 at *
  clear hg1 hg2
  have c0 : w2.cell? ⟨b0, 0, none⟩ = some (.int .u64 x) := cell_of_row _ _ _ _ _ _ hx1
  have c1 : w2.cell? ⟨b0, 1, none⟩ = some (.int .i64 n) := cell_of_row _ _ _ _ _ _ hx1
  have d0 : w2.cell? ⟨b1, 0, none⟩ = some (.int .u64 y) := cell_of_row _ _ _ _ _ _ hy1
  have d1 : w2.cell? ⟨b1, 1, none⟩ = some (.int .i64 m) := cell_of_row _ _ _ _ _ _ hy1
  have e0 : w2.cell? ⟨b2, 0, none⟩ = some (.int .u64 0) := cell_of_row _ _ _ _ _ _ hz1
  have e1 : w2.cell? ⟨b2, 1, none⟩ = some (.int .i64 0) := cell_of_row _ _ _ _ _ _ hz1
  have ef : ∀ j, w2.frozen? ⟨b2, j, none⟩ = false := fun j => frozen_of_row _ _ _ _ _ hz1
  clear hx1 hy1 hz1
  go_wp2_with fail
  refine bodyPost_ret (v := .tuple #[.agg #[.int .u64 0, .int .i64 0], .bool false]) (by simp [results, Try.results61, go_sem, e0, e1]) rfl ⟨rfl, ?_⟩
  rw [hg3]
  exact (hfin.out.setCell (p := ⟨b2, 0, none⟩) q5 _).setCell (p := ⟨b2, 1, none⟩) q5 _
end Go.Proofs.Ytjfeocoengheaaa
