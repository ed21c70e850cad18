/- A tree of package bits that makes nodes: a fork as it is. -/
import Derived.Test.YtdipgcbppggdhaaGpC
import Derived.Deep.DeepCutAuto
namespace Go.Proofs.Ytdipgcbppggdhaa
set_option maxRecDepth 100000
open Go.RowKit

section
variable {K : Nat → Prop} {q p : Nat} {s s' s1 : Ar} {e e' r x y : Int} {w : World}
def AtEnd (w : World) (z : Nat) : Prop := w.heap.size ≤ z
/-- While a fork is made. -/
structure PairAt (K : Nat → Prop) (q p : Nat) (s : Ar) (e : Int) (z : Nat) (x y a b : Int) (w W : World) : Prop where
  tre : BTre W K q p s e
  below : Below w.heap.size w W
  box : W.heap[z]? = some (.cells #[.int .i64 2, .int .i64 x, .int .i64 y, .int .i64 0, .int .i64 0, .int .u64 a, .int .u64 b] 47 (0, 0))
set_option maxHeartbeats 4000000 in
theorem bpair_is (hp : Pair s e x y s' e' r) (ha : BTre w K q p s e) :
    Calls Try.prog 94 #[.pointer (some ⟨q, 0, none⟩), .int .i64 x, .int .i64 y] w fun o w' => o = .returned (.int .i64 r) ∧ BTre w' K q p s' e' ∧ Kept K w w' := by
  obtain ⟨⟨vx, vy, v1, v2, eq⟩, sn⟩ := hp
  have b1 := v1.big
  have b2 := v2.big
  obtain ⟨K1, hK1⟩ : ∃ K1 : Nat → Prop, K1 = fun b => K b ∨ b = w.heap.size := ⟨_, rfl⟩
  have HK1 := Lib.hid hK1
  have HLx := fun w (ha : Ars w (fun b => K1 b ∨ b = q) p s) => Lib.hid (blen_is v1 ha sn.fit)
  have HLy := fun w (ha : Ars w (fun b => K1 b ∨ b = q) p s) => Lib.hid (blen_is v2 ha sn.fit)
  have HOx := fun w (ha : Ars w (fun b => K1 b ∨ b = q) p s) => Lib.hid (bones_is v1 ha sn.fit)
  have HOy := fun w (ha : Ars w (fun b => K1 b ∨ b = q) p s) => Lib.hid (bones_is v2 ha sn.fit)
  have HN := fun w ha => Lib.hid (bnode_is (w := w) (K := K1) (q := q) (p := p) _ eq sn ha)
  replace ha := ha.allocK (.cells #[.int .i64 2, .int .i64 x, .int .i64 y, .int .i64 0, .int .i64 0, .int .u64 0, .int .u64 0] 47)
  rw [← hK1] at ha
  have hp0 : PairAt K1 q p s e w.heap.size x y 0 0 w (w.alloc (.cells #[.int .i64 2, .int .i64 x, .int .i64 y, .int .i64 0, .int .i64 0, .int .u64 0, .int .u64 0] 47)) :=
    ⟨ha, (Below.refl w.heap.size w).alloc (Nat.le_refl _) _, heap_alloc_new _ _⟩
  have hz0 := Lib.hid (show AtEnd w w.heap.size from Nat.le_refl w.heap.size)
  clear ha eq sn v1 v2 hK1
  obtain ⟨bx1, bx2⟩ := b1
  obtain ⟨by1, by2⟩ := b2
  have hl1 : ((vx.len + vy.len : Nat) : Int) = (vx.len : Int) + (vy.len : Int) := by omega
  have hl2 : ((vx.ones + vy.ones : Nat) : Int) = (vx.ones : Int) + (vy.ones : Int) := by omega
  unfold forkN at HN
  rw [hl1, hl2] at HN
  clear hl1 hl2
  generalize vx.len = lx at *
  generalize vy.len = ly at *
  generalize vx.ones = ox at *
  generalize vy.ones = oy at *
  have hw1 : IntKind.i64.wrap ((lx : Int) + (ly : Int)) = (lx : Int) + (ly : Int) := bwrap_small (by omega) (by omega)
  have hw2 : IntKind.u64.wrap ((lx : Int) + (ly : Int)) = (lx : Int) + (ly : Int) := bwrap_u64 (by omega) (by omega)
  have hw3 : IntKind.i64.wrap ((ox : Int) + (oy : Int)) = (ox : Int) + (oy : Int) := bwrap_small (by omega) (by omega)
  have hw4 : IntKind.u64.wrap ((ox : Int) + (oy : Int)) = (ox : Int) + (oy : Int) := bwrap_u64 (by omega) (by omega)
  go_enter Try.func94, Try.ntmps94
  go_upto_region 2 with fail
  generalize w.alloc (.cells #[.int .i64 2, .int .i64 x, .int .i64 y, .int .i64 0, .int .i64 0, .int .u64 0, .int .u64 0] 47) = wq at *
  generalize w.heap.size = z at *
  have zK : Hid (K1 z) := by show K1 z; rw [HK1.out]; exact .inr rfl
  have hKK : Hid (∀ b, K b → K1 b) := fun b h => by rw [HK1.out]; exact .inl h
  have P0 := Lib.hid hp0
  have c0 := hp0.tre.c0
  have n5 : wq.cell? ⟨z, 5, none⟩ = some (.int .u64 0) := cell_of_row _ _ _ _ _ _ hp0.box
  have f5 : wq.frozen? ⟨z, 5, none⟩ = false := frozen_of_row _ _ _ _ _ hp0.box
  clear hp0
  go_cut [24] (fun _ W => PairAt K1 q p s e z x y ((lx : Int) + (ly : Int)) 0 w W)
  case first =>
    first | go_region_with (first | (go_at_call_of 34 (Value.int .i64 x); refine (HLx _ P0.out.tre.drew.ars).out.mono ?_; rintro o w3 ⟨rfl, ha3, hk3⟩; have T3 := Lib.hid (P0.out.tre.drew.below hk3); have d0 : w3.cell? ⟨q, 0, none⟩ = some (.pointer (some ⟨p, 0, none⟩)) := T3.out.c0; have Hk3 := Lib.hid (P0.out.below.drew.trans (hk3.mono P0.out.below.size)); have Hx3 := Lib.hid ((hk3.block z (lt_heap P0.out.box)).trans P0.out.box); clear ha3 hk3) | (go_at_call_of 34 (Value.int .i64 y); refine (HLy _ T3.out.ars).out.mono ?_; rintro o w4 ⟨rfl, ha4, hk4⟩; have T4 := Lib.hid (T3.out.below hk4); have Hk4 := Lib.hid (Hk3.out.trans (hk4.mono Hk3.out.size)); have Hx4 := Lib.hid ((hk4.block z (lt_heap Hx3.out)).trans Hx3.out); have n4 : w4.cell? ⟨z, 5, none⟩ = some (.int .u64 0) := cell_of_row _ _ _ _ _ _ Hx4.out; have f4 : w4.frozen? ⟨z, 5, none⟩ = false := frozen_of_row _ _ _ _ _ Hx4.out; clear ha4 hk4)) | fail
    all_goals
      go_wp2_with fail
      go_meet
      case rel => exact ⟨T4.out.put zK.out _ _, Hk4.out.setCell (p := ⟨z, 5, none⟩) hz0.out _, by rw [heap_setCell_same _ _ _ _ _ _ Hx4.out]; rfl⟩
  case rest =>
  clear P0 c0 n5 f5 HLx HLy
  have hp0 := hcut
  clear hcut
  obtain ⟨wq, rfl⟩ : ∃ wq : World, wq = wc := ⟨_, rfl⟩
  go_upto_region 3 with fail
  have P0 := Lib.hid hp0
  have c0 := hp0.tre.c0
  have n6 : wq.cell? ⟨z, 6, none⟩ = some (.int .u64 0) := cell_of_row _ _ _ _ _ _ hp0.box
  have f6 : wq.frozen? ⟨z, 6, none⟩ = false := frozen_of_row _ _ _ _ _ hp0.box
  clear hp0
  go_cut [39] (fun _ W => PairAt K1 q p s e z x y ((lx : Int) + (ly : Int)) ((ox : Int) + (oy : Int)) w W)
  case first =>
    first | go_region_with (first | (go_at_call_of 57 (Value.int .i64 x); refine (HOx _ P0.out.tre.drew.ars).out.mono ?_; rintro o w3 ⟨rfl, ha3, hk3⟩; have T3 := Lib.hid (P0.out.tre.drew.below hk3); have d0 : w3.cell? ⟨q, 0, none⟩ = some (.pointer (some ⟨p, 0, none⟩)) := T3.out.c0; have Hk3 := Lib.hid (P0.out.below.drew.trans (hk3.mono P0.out.below.size)); have Hx3 := Lib.hid ((hk3.block z (lt_heap P0.out.box)).trans P0.out.box); clear ha3 hk3) | (go_at_call_of 57 (Value.int .i64 y); refine (HOy _ T3.out.ars).out.mono ?_; rintro o w4 ⟨rfl, ha4, hk4⟩; have T4 := Lib.hid (T3.out.below hk4); have Hk4 := Lib.hid (Hk3.out.trans (hk4.mono Hk3.out.size)); have Hx4 := Lib.hid ((hk4.block z (lt_heap Hx3.out)).trans Hx3.out); have n4 : w4.cell? ⟨z, 6, none⟩ = some (.int .u64 0) := cell_of_row _ _ _ _ _ _ Hx4.out; have f4 : w4.frozen? ⟨z, 6, none⟩ = false := frozen_of_row _ _ _ _ _ Hx4.out; clear ha4 hk4)) | fail
    all_goals
      go_wp2_with fail
      go_meet
      case rel => exact ⟨T4.out.put zK.out _ _, Hk4.out.setCell (p := ⟨z, 6, none⟩) hz0.out _, by rw [heap_setCell_same _ _ _ _ _ _ Hx4.out]; rfl⟩
  case rest =>
  clear P0 c0 n6 f6 HOx HOy
  have hp0 := hcut
  clear hcut
  have P0 := Lib.hid hp0
  have y0 : wc.cell? ⟨z, 0, none⟩ = some (.int .i64 2) := cell_of_row _ _ _ _ _ _ hp0.box
  have y1 : wc.cell? ⟨z, 1, none⟩ = some (.int .i64 x) := cell_of_row _ _ _ _ _ _ hp0.box
  have y2 : wc.cell? ⟨z, 2, none⟩ = some (.int .i64 y) := cell_of_row _ _ _ _ _ _ hp0.box
  have y3 : wc.cell? ⟨z, 3, none⟩ = some (.int .i64 0) := cell_of_row _ _ _ _ _ _ hp0.box
  have y4 : wc.cell? ⟨z, 4, none⟩ = some (.int .i64 0) := cell_of_row _ _ _ _ _ _ hp0.box
  have y5 : wc.cell? ⟨z, 5, none⟩ = some (.int .u64 ((lx : Int) + (ly : Int))) := cell_of_row _ _ _ _ _ _ hp0.box
  have y6 : wc.cell? ⟨z, 6, none⟩ = some (.int .u64 ((ox : Int) + (oy : Int))) := cell_of_row _ _ _ _ _ _ hp0.box
  clear hp0
  go_wp2_with fail
  refine (HN _ P0.out.tre).out.mono ?_
  rintro o w5 ⟨rfl, ha5, hk5⟩
  go_wp2_with fail
  go_ret
  exact ⟨rfl, ha5.more hKK.out, (Kept.of_below P0.out.below K).trans (hk5.mono fun b _ h => hKK.out b h)⟩
end
end Go.Proofs.Ytdipgcbppggdhaa
