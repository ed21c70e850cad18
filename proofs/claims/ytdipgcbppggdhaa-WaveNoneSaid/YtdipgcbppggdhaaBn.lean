/- Package bits where there is no arena: what is told, and what is not made. -/
import Derived.Test.YtdipgcbppggdhaaA0
import Derived.Test.YtdipgcbppggdhaaGpE
namespace Go.Proofs.Ytdipgcbppggdhaa
set_option maxRecDepth 100000
open Go.RowKit

set_option maxHeartbeats 8000000 in
theorem brow_nil (i : Int) (w : World) :
    Calls Try.prog 46 #[.pointer none, .int .i64 i] w fun r w' => r = .returned (.tuple #[.agg #[.int .i64 0, .int .i64 0, .int .i64 0, .int .i64 0, .int .i64 0, .int .u64 0, .int .u64 0], .bool false]) ∧ Below w.heap.size w w' := by
  have H := fun (o : Obj) => Lib.hid (get_none i (w.alloc o))
  go_enter Try.func46, Try.ntmps46
  go_wp2_with fail
  refine (H _).out.mono ?_
  clear H
  rintro e w1 ⟨rfl, hk⟩
  go_wp2_with fail
  have hr : w1.heap[w.heap.size]? = some (.cells #[.int .i64 0, .int .i64 0, .int .i64 0, .int .i64 0, .int .i64 0, .int .u64 0, .int .u64 0] 47 (0, 0)) := by
    rw [hk.block _ (by simp)]; exact heap_alloc_new _ _
  have hq := lt_heap hr
  have Hk := Lib.hid (((Below.refl _ w).alloc (Nat.le_refl _) _).trans ((hk.mono (by simp)).alloc (by omega) (.cells #[.int .i64 0, .int .i64 0, .int .i64 0, .int .i64 0, .int .i64 0, .int .u64 0, .int .u64 0] 47)))
  replace hr := (Below.heap_alloc w1 (.cells #[.int .i64 0, .int .i64 0, .int .i64 0, .int .i64 0, .int .i64 0, .int .u64 0, .int .u64 0] 47) _ hq).trans hr
  have hx := heap_alloc_new w1 (.cells #[.int .i64 0, .int .i64 0, .int .i64 0, .int .i64 0, .int .i64 0, .int .u64 0, .int .u64 0] 47)
  clear hk
  generalize w1.alloc (.cells #[.int .i64 0, .int .i64 0, .int .i64 0, .int .i64 0, .int .i64 0, .int .u64 0, .int .u64 0] 47) = w2 at *
  generalize w1.heap.size = q at *
  have x0 : w2.cell? ⟨q, 0, none⟩ = some (.int .i64 0) := cell_of_row _ _ _ _ _ _ hx
  have x1 : w2.cell? ⟨q, 1, none⟩ = some (.int .i64 0) := cell_of_row _ _ _ _ _ _ hx
  have x2 : w2.cell? ⟨q, 2, none⟩ = some (.int .i64 0) := cell_of_row _ _ _ _ _ _ hx
  have x3 : w2.cell? ⟨q, 3, none⟩ = some (.int .i64 0) := cell_of_row _ _ _ _ _ _ hx
  have x4 : w2.cell? ⟨q, 4, none⟩ = some (.int .i64 0) := cell_of_row _ _ _ _ _ _ hx
  have x5 : w2.cell? ⟨q, 5, none⟩ = some (.int .u64 0) := cell_of_row _ _ _ _ _ _ hx
  have x6 : w2.cell? ⟨q, 6, none⟩ = some (.int .u64 0) := cell_of_row _ _ _ _ _ _ hx
  have r0 : w2.cell? ⟨w.heap.size, 0, none⟩ = some (.int .i64 0) := cell_of_row _ _ _ _ _ _ hr
  have r1 : w2.cell? ⟨w.heap.size, 1, none⟩ = some (.int .i64 0) := cell_of_row _ _ _ _ _ _ hr
  have r2 : w2.cell? ⟨w.heap.size, 2, none⟩ = some (.int .i64 0) := cell_of_row _ _ _ _ _ _ hr
  have r3 : w2.cell? ⟨w.heap.size, 3, none⟩ = some (.int .i64 0) := cell_of_row _ _ _ _ _ _ hr
  have r4 : w2.cell? ⟨w.heap.size, 4, none⟩ = some (.int .i64 0) := cell_of_row _ _ _ _ _ _ hr
  have r5 : w2.cell? ⟨w.heap.size, 5, none⟩ = some (.int .u64 0) := cell_of_row _ _ _ _ _ _ hr
  have r6 : w2.cell? ⟨w.heap.size, 6, none⟩ = some (.int .u64 0) := cell_of_row _ _ _ _ _ _ hr
  have rf : ∀ j, w2.frozen? ⟨w.heap.size, j, none⟩ = false := fun j => frozen_of_row _ _ _ _ _ hr
  clear hx hr
  generalize hz : w.heap.size = z at *
  go_region
  all_goals go_wp2_with fail
  all_goals exact bodyPost_ret (v := .tuple #[.agg #[.int .i64 0, .int .i64 0, .int .i64 0, .int .i64 0, .int .i64 0, .int .u64 0, .int .u64 0], .bool false]) (by simp [results, Try.results46, go_sem, r0, r1, r2, r3, r4, r5, r6]) rfl ⟨rfl, by rw [hz]; exact brow_below Hk.out ..⟩
set_option maxHeartbeats 1000000 in
theorem blen_nil (h : Int) (w : World) : Calls Try.prog 34 #[.pointer none, .int .i64 h] w fun e w' => e = .returned (.int .i64 0) ∧ Below w.heap.size w w' := by
  have H := Lib.hid (brow_nil h w)
  go_enter Try.func34, Try.ntmps34
  go_wp2_with fail
  refine H.out.mono ?_
  rintro e w1 ⟨rfl, hk⟩
  go_wp2_with fail
  go_ret
  exact ⟨rfl, hk.alloc hk.size _⟩
/-- A tree without an arena. -/
structure BTreN (w : World) (K : Nat → Prop) (q : Nat) (e : Int) : Prop where
  hq : w.heap[q]? = some (.cells #[.pointer none, .int .i64 e] 84 (0, 0))
  kq : ¬ K q
section
variable {w w' : World} {K : Nat → Prop} {q : Nat} {e : Int}
theorem BTreN.cell (h : BTreN w K q e) (i : Nat) : w.cell? ⟨q, i, none⟩ = (#[.pointer none, .int .i64 e] : Array Value)[i]? := cell_of_row _ _ _ _ _ _ h.hq
theorem BTreN.c0 (h : BTreN w K q e) : w.cell? ⟨q, 0, none⟩ = some (.pointer none) := h.cell 0
theorem BTreN.c1 (h : BTreN w K q e) : w.cell? ⟨q, 1, none⟩ = some (.int .i64 e) := h.cell 1
theorem BTreN.fz (h : BTreN w K q e) (i : Nat) : w.frozen? ⟨q, i, none⟩ = false := frozen_of_row _ _ _ _ _ h.hq
theorem BTreN.below (h : BTreN w K q e) (hb : Below w.heap.size w w') : BTreN w' K q e := ⟨(hb.block q (lt_heap h.hq)).trans h.hq, h.kq⟩
theorem BTreN.drew (h : BTreN w K q e) : BTreN w.drew K q e := ⟨h.hq, h.kq⟩
theorem BTreN.set1 (h : BTreN w K q e) (v : Int) : BTreN (w.setCell ⟨q, 1, none⟩ (.int .i64 v)) K q v := ⟨by rw [heap_setCell_same _ _ _ _ _ _ h.hq]; rfl, h.kq⟩
set_option maxHeartbeats 2000000 in
theorem bdrop_nil {g off : Nat} (hc : ∀ i, i < 4 → w.cell? ⟨g, off + i, none⟩ = some (.int .i64 0)) (ha : BTreN w K q e) :
    Calls Try.prog 93 #[.pointer (some ⟨q, 0, none⟩), .slice (some ⟨g, off, none⟩) 4 4] w fun r w' => r = .returned (.tuple #[]) ∧ w' = w := by
  have c0 := ha.c0
  have Hc := Lib.hid hc
  clear hc ha
  go_enter Try.func93, Try.ntmps93
  go_wp2_with fail
  go_loopw [8] (fun i W => ∃ j : Nat, i = .int .i64 j ∧ j ≤ 4 ∧ W = w) (fun i _ => 4 - (intOf i).toNat)
  case atStart => exact ⟨0, rfl, Nat.zero_le _, rfl⟩
  case round =>
    obtain ⟨j, rfl, hj, rfl⟩ := hrel
    by_cases hlt : j < 4
    · have hlt' : (j : Int) < 4 := by omega
      have cx := Hc.out j hlt
      go_wp2_with fail
      refine (drop_none _ _).mono ?_
      rintro e w2 ⟨rfl, rfl⟩
      go_wp2_with fail
      go_roundw
      case rel => exact ⟨j + 1, by go_num, by omega, by first | rfl | trivial⟩
      case measure => simp [intOf]; omega
    · obtain rfl : j = 4 := by omega
      go_wp2_with fail
      go_end0
      exact ⟨rfl, rfl⟩
set_option maxHeartbeats 4000000 in
theorem bnode_nil {a b : Int} (ha : BTreN w K q 0) :
    Calls Try.prog 92 #[.pointer (some ⟨q, 0, none⟩), .agg #[.int .i64 1, .int .i64 0, .int .i64 0, .int .i64 0, .int .i64 0, .int .u64 a, .int .u64 b]] w fun r w' => r = .returned (.int .i64 0) ∧ BTreN w' K q 2 ∧ Kept K w w' := by
  have HM := fun w => Lib.hid (make_no_arena (t := 1) (a := a) (b := b) (by decide) (by decide) w)
  have hql := lt_heap ha.hq
  have hx := heap_alloc_new w (.cells #[.int .i64 1, .int .i64 0, .int .i64 0, .int .i64 0, .int .i64 0, .int .u64 a, .int .u64 b] 47)
  have hb0 := (Below.refl w.heap.size w).alloc (Nat.le_refl _) (.cells #[.int .i64 1, .int .i64 0, .int .i64 0, .int .i64 0, .int .i64 0, .int .u64 a, .int .u64 b] 47)
  have Hk := Lib.hid (Kept.of_below hb0 K)
  have Ha := Lib.hid (ha.below hb0)
  have c0 := Ha.out.c0
  have c1 := Ha.out.c1
  have Hx := Lib.hid hx
  have Kq := Lib.hid ha.kq
  clear ha hx hb0
  go_enter Try.func92, Try.ntmps92
  go_wp2_with fail
  generalize w.alloc (.cells #[.int .i64 1, .int .i64 0, .int .i64 0, .int .i64 0, .int .i64 0, .int .u64 a, .int .u64 b] 47) = w1 at *
  generalize w.heap.size = z at *
  have hz := Lib.hid (lt_heap Hx.out)
  have hzq : Hid (z ≠ q) := by show z ≠ q; omega
  have x0 : w1.cell? ⟨z, 0, none⟩ = some (.int .i64 1) := cell_of_row _ _ _ _ _ _ Hx.out
  have x1 : w1.cell? ⟨z, 1, none⟩ = some (.int .i64 0) := cell_of_row _ _ _ _ _ _ Hx.out
  have x2 : w1.cell? ⟨z, 2, none⟩ = some (.int .i64 0) := cell_of_row _ _ _ _ _ _ Hx.out
  have x3 : w1.cell? ⟨z, 3, none⟩ = some (.int .i64 0) := cell_of_row _ _ _ _ _ _ Hx.out
  have x4 : w1.cell? ⟨z, 4, none⟩ = some (.int .i64 0) := cell_of_row _ _ _ _ _ _ Hx.out
  have x5 : w1.cell? ⟨z, 5, none⟩ = some (.int .u64 a) := cell_of_row _ _ _ _ _ _ Hx.out
  have x6 : w1.cell? ⟨z, 6, none⟩ = some (.int .u64 b) := cell_of_row _ _ _ _ _ _ Hx.out
  go_cut [5] (fun v W => v = .int .i64 0 ∧ BTreN W K q 2 ∧ Kept K w W ∧ W.heap[z]? = some (.cells #[.int .i64 1, .int .i64 0, .int .i64 0, .int .i64 0, .int .i64 0, .int .u64 a, .int .u64 b] 47 (0, 0)))
  case first =>
    first | go_region_with (go_at_call 24; refine (HM _).out.mono ?_; rintro e w2 ⟨rfl, hk2⟩; have T2 := Lib.hid (Ha.out.drew.below hk2); have d1 : w2.cell? ⟨q, 1, none⟩ = some (.int .i64 0) := T2.out.c1; have d2 : w2.frozen? ⟨q, 1, none⟩ = false := T2.out.fz 1; have Hx2 := Lib.hid ((hk2.block z hz.out).trans Hx.out); have Hk2 := Lib.hid (Hk.out.drew.trans (Kept.of_below hk2 K)); clear hk2) | fail
    all_goals
      have T3 := Lib.hid (T2.out.set1 2)
      have Hx3 := Lib.hid ((Below.heap_setCell w2 ⟨q, 1, none⟩ (.int .i64 2) z hzq.out).trans Hx2.out)
      have Hk3 := Lib.hid (Hk2.out.setCell (p := ⟨q, 1, none⟩) (.inl Kq.out) (.int .i64 2))
      go_wp2_with fail
      go_meet
      case rel => exact ⟨rfl, T3.out, Hk3.out, Hx3.out⟩
  case rest =>
    obtain ⟨rfl, t3, k3, hx3⟩ := hcut
    have T3 := Lib.hid t3
    have Hk3 := Lib.hid k3
    have HD := Lib.hid (bdrop_nil (K := K) (q := q) (w := wc) (e := 2) (g := z) (off := 1) (fun i hi => box_kids (x := ⟨1, 0, 0, 0, 0, a, b⟩) hx3 i hi |>.trans (by
      have : i = 0 ∨ i = 1 ∨ i = 2 ∨ i = 3 := by omega
      rcases this with rfl | rfl | rfl | rfl <;> rfl)) t3)
    clear t3 k3 hx3 x0 x1 x2 x3 x4 x5 x6 c0 c1 HM Ha Hk hz Hx
    go_wp2_with fail
    refine HD.out.mono ?_
    rintro o w4 ⟨rfl, rfl⟩
    go_wp2_with fail
    go_ret
    exact ⟨rfl, T3.out, Hk3.out⟩
set_option maxHeartbeats 1000000 in
theorem bleaf_nil {x : Int} (ha : BTreN w K q 0) :
    Calls Try.prog 78 #[.pointer (some ⟨q, 0, none⟩), .agg #[.int .u64 x, .int .i64 1]] w fun o w' => o = .returned (.int .i64 0) ∧ BTreN w' K q 2 ∧ Kept K w w' := by
  have H := fun w ha => Lib.hid (bnode_nil (w := w) (K := K) (q := q) (a := x) (b := 1) ha)
  have Ha := Lib.hid ha
  clear ha
  go_enter Try.func78, Try.ntmps78
  go_wp2_with fail
  refine (H _ (Ha.out.below ((Below.refl _ _).alloc (Nat.le_refl _) _))).out.mono ?_
  rintro o w1 ⟨rfl, ha, hk⟩
  go_wp2_with fail
  go_ret
  exact ⟨rfl, ha, ((Kept.refl K w).alloc _).trans hk⟩
set_option maxHeartbeats 4000000 in
theorem bins_nil {one : Bool} (ha : BTreN w K q 0) :
    Calls Try.prog 62 #[.pointer (some ⟨q, 0, none⟩), .int .i64 0, .int .i64 0, .bool one] w fun o w' => o = .returned (.int .i64 0) ∧ BTreN w' K q 2 ∧ Kept K w w' := by
  have c0 := ha.c0
  have H := fun w => Lib.hid (brow_nil 0 w)
  have Ha := Lib.hid ha
  have HI := fun w => Lib.hid (show Calls Try.prog 77 #[.agg #[.int .u64 0, .int .i64 0], .int .i64 0, .bool one] w fun e w' => e = .returned (.tuple #[.agg #[.int .u64 (bN [one]), .int .i64 ([one] : List Bool).length], .bool true]) ∧ Below w.heap.size w w' from lins_yes [] 0 one w (by decide) (Nat.le_refl _))
  have HLf := fun V w ha => Lib.hid (bleaf_nil (w := w) (K := K) (q := q) (x := V) ha)
  have hlen : ([one] : List Bool).length = 1 := rfl
  rw [hlen] at HI
  clear ha hlen
  generalize (bN [one] : Int) = V at *
  go_enter Try.func62, Try.ntmps62
  go_wp2_with fail
  refine (H _).out.mono ?_
  rintro o w1 ⟨rfl, hk1⟩
  have B1 := Lib.hid (hk1.alloc hk1.size (.cells #[.int .i64 0, .int .i64 0, .int .i64 0, .int .i64 0, .int .i64 0, .int .u64 0, .int .u64 0] 47))
  clear hk1 H
  go_wp2_with fail
  refine (HI _).out.mono ?_
  rintro o w2 ⟨rfl, hk2⟩
  have B2 := Lib.hid ((B1.out.trans (hk2.mono B1.out.size)).alloc (Nat.le_trans B1.out.size hk2.size) (.cells #[.int .u64 V, .int .i64 1] 71))
  clear hk2 B1
  go_wp2_with fail
  refine (HLf V _ (Ha.out.below B2.out)).out.mono ?_
  rintro o w3 ⟨rfl, h3, k3⟩
  go_wp2_with fail
  go_ret
  exact ⟨rfl, h3, (Kept.of_below B2.out K).trans k3⟩
set_option maxHeartbeats 1000000 in
theorem btold_nil {h : Int} (ha : BTreN w K q 2) :
    Calls Try.prog 61 #[.pointer (some ⟨q, 0, none⟩), .int .i64 h] w fun o w' => o = .returned (.tuple #[.int .i64 0, .int .i64 2]) ∧ Below w.heap.size w w' := by
  have c1 := ha.c1
  clear ha
  go_enter Try.func61, Try.ntmps61
  go_wp2_with fail
  go_quiet (fail)
  go_wp2_with fail
  go_ret2
  exact ⟨rfl, ⟨rfl, rfl, rfl, Nat.le_refl _, fun _ _ => rfl⟩⟩
end
set_option maxHeartbeats 2000000 in
theorem bInsert_nil {one : Bool} (w : World) :
    Calls Try.prog 50 #[.pointer none, .int .i64 0, .int .i64 0, .bool one] w fun o w' => o = .returned (.tuple #[.int .i64 0, .int .i64 2]) ∧ Below w.heap.size w w' := by
  obtain ⟨K, hK⟩ : ∃ K : Nat → Prop, K = fun b => b < w.heap.size := ⟨_, rfl⟩
  have HK := Lib.hid hK
  clear hK
  have HL := Lib.hid (blen_nil 0 w)
  have HI := fun q w ha => Lib.hid (bins_nil (q := q) (K := K) (w := w) (one := one) ha)
  have HT := fun q w h ha => Lib.hid (btold_nil (w := w) (K := K) (q := q) (h := h) ha)
  go_enter Try.func50, Try.ntmps50
  go_wp2_with fail
  refine HL.out.mono ?_
  rintro o w1 ⟨rfl, hk1⟩
  have T1 := Lib.hid (show BTreN (w1.alloc (.cells #[.pointer none, .int .i64 0] 84)) K w1.heap.size 0 from ⟨heap_alloc_new _ _, by rw [HK.out]; have := hk1.size; omega⟩)
  have K1 := Lib.hid ((Kept.of_below hk1 K).alloc (.cells #[.pointer none, .int .i64 0] 84))
  clear hk1 HL
  go_wp2_with fail
  refine (HI _ _ T1.out).out.mono ?_
  rintro o w2 ⟨rfl, h2, k2⟩
  have T2 := Lib.hid h2
  have K2 := Lib.hid (K1.out.trans k2)
  clear h2 k2
  go_wp2_with fail
  refine (HT _ _ _ T2.out).out.mono ?_
  rintro o w3 ⟨rfl, k3⟩
  go_wp2_with fail
  go_ret2
  refine ⟨rfl, ?_⟩
  have hk2 := K2.out.trans (Kept.of_below k3 K)
  rw [HK.out] at hk2
  exact hk2.below_of (Nat.le_refl _)
section
variable {K : Nat → Prop} {q p : Nat} {s s' : Ar} {e e' r h : Int} {w : World}
set_option maxHeartbeats 2000000 in
theorem bDelete_no {i : Int} {v : View} (hv : Vw s h v) (hi : i < 0 ∨ (v.len : Int) ≤ i) (sn : s.Fit) (ha : Ars w K p s) :
    Calls Try.prog 53 #[.pointer (some ⟨p, 0, none⟩), .int .i64 h, .int .i64 i] w fun o w' => o = .returned (.tuple #[.int .i64 0, .int .i64 3]) ∧ Ars w' K p s ∧ Below w.heap.size w w' := by
  have HL := Lib.hid (blen_is hv ha sn)
  have hb := hv.big.1
  have Ha := Lib.hid ha
  have hi2 : (v.len : Int) ≤ 1000000 := by omega
  clear hv sn ha hb
  generalize v.len = n at *
  by_cases c : i < 0
  · clear hi
    go_enter Try.func53, Try.ntmps53
    go_wp2_with fail
    go_ret2
    exact ⟨rfl, Ha.out, Below.refl _ _⟩
  · have c' : 0 ≤ i := by omega
    have d : (n : Int) ≤ i := by omega
    clear hi c
    go_enter Try.func53, Try.ntmps53
    go_wp2_with fail
    refine HL.out.mono ?_
    rintro o w1 ⟨rfl, ha1, hk1⟩
    go_wp2_with fail
    go_ret2
    exact ⟨rfl, ha1, hk1⟩
end
end Go.Proofs.Ytdipgcbppggdhaa
