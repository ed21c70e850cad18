/- A tree of package bits that makes nodes: two leaves made one, or two that are alike long. -/
import Derived.Test.YtdipgcbppggdhaaBw9
import Derived.Deep.LoopGhost
namespace Go.Proofs.Ytdipgcbppggdhaa
set_option maxRecDepth 100000
open Go.RowKit

section
variable {l : List Bool} {k : Nat}
theorem take_take_pred (h1 : 1 ≤ k) : (l.take k).take (k - 1) = l.take (k - 1) := by
  rw [List.take_take]; congr 1; omega
theorem drop_take_pred (h1 : 1 ≤ k) (h2 : k ≤ l.length) : (l.take k).drop (k - 1) = [l.getD (k - 1) false] := by
  obtain ⟨j, rfl⟩ : ∃ j, k = j + 1 := ⟨k - 1, by omega⟩
  have hj : j < l.length := by omega
  have e : (l.take j).length = j := by rw [List.length_take]; omega
  rw [List.take_succ_eq_append_getElem hj, show j + 1 - 1 = j by omega, List.drop_append, List.drop_eq_nil_of_le (by omega), e]
  simp [List.getD, hj]
theorem ins_pred (h1 : 1 ≤ k) (h2 : k ≤ l.length) : bIns (l.drop k) 0 (l.getD (k - 1) false) = l.drop (k - 1) := by
  obtain ⟨j, rfl⟩ : ∃ j, k = j + 1 := ⟨k - 1, by omega⟩
  have hj : j < l.length := by omega
  rw [show j + 1 - 1 = j by omega, List.drop_eq_getElem_cons hj]
  simp [bIns, List.getD, hj]
theorem take_drop_one (h : k < l.length) : (l.drop k).take 1 = [l.getD k false] := by
  rw [List.drop_eq_getElem_cons h, List.take_succ_cons, List.take_zero]
  simp [List.getD, h]
theorem ins_succ (h : k < l.length) : bIns (l.take k) k (l.getD k false) = l.take (k + 1) := by
  have e : (l.take k).length = k := by rw [List.length_take]; omega
  unfold bIns
  rw [List.take_of_length_le (by omega), List.drop_eq_nil_of_le (by omega), List.take_succ_eq_append_getElem h]
  simp [List.getD, h]
end
/-- While bits are moved from one leaf to the other. -/
structure Hv (l : List Bool) (A B : Nat) (w : World) (k d : Nat) (W : World) : Prop where
  sum : k + d = l.length
  k64 : k ≤ 64
  d64 : d ≤ 64
  boxA : W.heap[A]? = some (.cells #[.int .u64 (bN (l.take k)), .int .i64 k] 71 (0, 0))
  boxB : W.heap[B]? = some (.cells #[.int .u64 (bN (l.drop k)), .int .i64 d] 71 (0, 0))
  below : Below w.heap.size w W
section
variable {K : Nat → Prop} {q p : Nat} {s s' : Ar} {e e' r : Int} {w : World}
set_option maxRecDepth 100000 in
set_option maxHeartbeats 8000000 in
theorem bhalves_two {s1 s2 : Ar} {e1 e2 x y : Int} {l : List Bool} {n m : Nat} (hn : (l.take n).length = n) (hm : (l.drop n).length = m) (hnm : n + m = l.length) (n64 : n ≤ 64) (m64 : m ≤ 64) (hlt : 64 < l.length)
    (hl1 : Leafs s e (l.take ((l.length + 1) / 2)) s1 e1 x) (hl2 : Leafs s1 e1 (l.drop ((l.length + 1) / 2)) s2 e2 y) (hp : PairOr s2 e2 x y s' e' r) (ha : BTre w K q p s e) :
    Calls Try.prog 100 #[.pointer (some ⟨q, 0, none⟩), .agg #[.int .u64 (bN (l.take n)), .int .i64 n], .agg #[.int .u64 (bN (l.drop n)), .int .i64 m]] w fun o w' => o = .returned (.int .i64 r) ∧ BTre w' K q p s' e' ∧ Kept K w w' := by
  have HJ := fun w => ljoin_no (l.take n) (l.drop n) w (by omega) (by omega) (by omega)
  rw [hn, hm] at HJ
  replace HJ := fun w => Lib.hid (HJ w)
  have L1 := fun K w ha => bleaf_is (w := w) (K := K) (q := q) (p := p) hl1 ha
  have L2 := fun K w ha => bleaf_is (w := w) (K := K) (q := q) (p := p) hl2 ha
  have HP := fun K w ha => Lib.hid (bpairOr_is (w := w) (K := K) (q := q) (p := p) hp ha)
  have Ha := Lib.hid ha
  have HN := Lib.hid (show n + m = l.length ∧ n ≤ 64 ∧ m ≤ 64 from ⟨hnm, n64, m64⟩)
  have Hlt := Lib.hid hlt
  clear hl1 hl2 hp ha hn hm hnm n64 m64 hlt
  go_enter Try.func100, Try.ntmps100
  go_wp2_with fail
  have hx0 := heap_alloc_new w (.cells #[.int .u64 (bN (l.take n)), .int .i64 n] 71)
  have hy0 := al2_1 w (.cells #[.int .u64 (bN (l.take n)), .int .i64 n] 71) (.cells #[.int .u64 (bN (l.drop n)), .int .i64 m] 71)
  refine (HJ _).out.mono ?_
  rintro o w1 ⟨rfl, hk1⟩
  have hx1 := (hk1.block w.heap.size (by simp; omega)).trans ((Below.heap_alloc _ _ _ (by simp)).trans hx0)
  have hy1 := (hk1.block (w.heap.size + 1) (by simp)).trans hy0
  have B1 := (((Below.refl w.heap.size w).alloc (Nat.le_refl _) (.cells #[.int .u64 (bN (l.take n)), .int .i64 n] 71)).alloc (by simp) (.cells #[.int .u64 (bN (l.drop n)), .int .i64 m] 71)).trans (hk1.mono (by simp; omega))
  have hlt1 := lt_heap hy1
  have V0 := Lib.hid (show Hv l w.heap.size (w.heap.size + 1) w n m (w1.alloc (.cells #[.int .u64 0, .int .i64 0] 71)) from
    ⟨HN.out.1, HN.out.2.1, HN.out.2.2, (Below.heap_alloc _ _ _ (by omega)).trans hx1, (Below.heap_alloc _ _ _ (by omega)).trans hy1, B1.alloc B1.size _⟩)
  have hA : Hid (AtEnd w w.heap.size) := Nat.le_refl _
  have hB : Hid (AtEnd w (w.heap.size + 1)) := by show w.heap.size ≤ w.heap.size + 1; omega
  have hAB : Hid (w.heap.size ≠ w.heap.size + 1) := by show w.heap.size ≠ w.heap.size + 1; omega
  clear hk1 hx0 hy0 hx1 hy1 B1 hlt1 HJ
  go_wp2_with fail
  generalize w1.alloc (.cells #[.int .u64 0, .int .i64 0] 71) = w2 at *
  generalize w.heap.size + 1 = bB at *
  generalize w.heap.size = bA at *
  go_loopg [] n (fun k W => ∃ d, Hv l bA bB w k d W)
  case atStart => exact ⟨m, V0.out⟩
  case round =>
    obtain ⟨d, hv⟩ := hrel
    clear V0
    have hT := Hlt.out
    have hs := hv.sum
    have h64 := hv.k64
    have hd64 := hv.d64
    have V := Lib.hid hv
    have a0 : wr.cell? ⟨bA, 0, none⟩ = some (.int .u64 (bN (l.take gk))) := cell_of_row _ _ _ _ _ _ hv.boxA
    have a1 : wr.cell? ⟨bA, 1, none⟩ = some (.int .i64 gk) := cell_of_row _ _ _ _ _ _ hv.boxA
    have b0 : wr.cell? ⟨bB, 0, none⟩ = some (.int .u64 (bN (l.drop gk))) := cell_of_row _ _ _ _ _ _ hv.boxB
    have b1 : wr.cell? ⟨bB, 1, none⟩ = some (.int .i64 d) := cell_of_row _ _ _ _ _ _ hv.boxB
    have g1 : (gk : Int) ≤ 64 := by omega
    have g2 : (d : Int) ≤ 64 := by omega
    have Hs := Lib.hid (And.intro hT (And.intro hs (And.intro h64 hd64)))
    clear hv hT hs h64 hd64
    by_cases hgt : (l.length + 1) / 2 < gk
    · have hg : ((gk : Int) + (d : Int) + 1) / 2 < (gk : Int) := by have := Hs.out; omega
      have hk1 : 1 ≤ (gk : Int) := by omega
      have hS := fun w => lsplit_is (l.take gk) (gk - 1) w (by rw [List.length_take]; have := Hs.out; omega) (by rw [List.length_take]; have := Hs.out; omega)
      have hlt : (l.take gk).length = gk := by rw [List.length_take]; have := Hs.out; omega
      rw [hlt, take_take_pred (by omega), drop_take_pred (by omega) (by have := Hs.out; omega), show ((gk - (gk - 1) : Nat) : Int) = 1 by omega, show ((gk - 1 : Nat) : Int) = (gk : Int) - 1 by omega] at hS
      replace hS := fun w => Lib.hid (hS w)
      have hG := fun w => Lib.hid (show Calls Try.prog 47 #[.agg #[.int .u64 (bN [l.getD (gk - 1) false]), .int .i64 1], .int .i64 0] w fun e w' => e = .returned (.bool (l.getD (gk - 1) false)) ∧ Below w.heap.size w w' from lget_is [l.getD (gk - 1) false] 0 w (show 1 ≤ 64 by omega) (show 0 < 1 by omega))
      have hdl : (l.drop gk).length = d := by rw [List.length_drop]; have := Hs.out; omega
      have hI := fun w => lins_yes (l.drop gk) 0 (l.getD (gk - 1) false) w (by have := Hs.out; omega) (Nat.zero_le _)
      rw [ins_pred (by omega) (by have := Hs.out; omega), hdl, show (l.drop (gk - 1)).length = d + 1 by rw [List.length_drop]; have := Hs.out; omega] at hI
      replace hI := fun w => Lib.hid (show Calls Try.prog 77 #[.agg #[.int .u64 (bN (l.drop gk)), .int .i64 d], .int .i64 0, .bool (l.getD (gk - 1) false)] w _ from hI w)
      have a0' : ∀ o, (wr.alloc o).cell? ⟨bA, 0, none⟩ = some (.int .u64 (bN (l.take gk))) := fun o => (((Below.refl _ wr).alloc (Nat.le_refl _) o).cell (p := ⟨bA, 0, none⟩) (lt_heap V.out.boxA)).trans a0
      have a1' : ∀ o, (wr.alloc o).cell? ⟨bA, 1, none⟩ = some (.int .i64 gk) := fun o => (((Below.refl _ wr).alloc (Nat.le_refl _) o).cell (p := ⟨bA, 1, none⟩) (lt_heap V.out.boxA)).trans a1
      clear hlt hdl
      generalize l.getD (gk - 1) false = g at *
      go_wp2_with fail
      have hz9 := heap_alloc_new wr (.cells #[.int .u64 0, .int .i64 0] 71)
      have hb9 := (Below.refl wr.heap.size wr).alloc (Nat.le_refl _) (.cells #[.int .u64 0, .int .i64 0] 71)
      have l9 := lt_heap hz9
      have n9A : wr.heap.size ≠ bA := by have := lt_heap V.out.boxA; omega
      have n9B : wr.heap.size ≠ bB := by have := lt_heap V.out.boxB; omega
      clear a0' a1' a0 a1 b0 b1
      generalize wr.alloc (.cells #[.int .u64 0, .int .i64 0] 71) = w3 at *
      refine (hS _).out.mono ?_
      rintro o w4 ⟨rfl, hk4⟩
      have hA4 := (hk4.block _ (Nat.lt_of_lt_of_le (lt_heap V.out.boxA) hb9.size)).trans ((hb9.block _ (lt_heap V.out.boxA)).trans V.out.boxA)
      have hB4 := (hk4.block _ (Nat.lt_of_lt_of_le (lt_heap V.out.boxB) hb9.size)).trans ((hb9.block _ (lt_heap V.out.boxB)).trans V.out.boxB)
      have h94 := (hk4.block _ l9).trans hz9
      have q0 : w4.cell? ⟨bA, 0, none⟩ = some (.int .u64 (bN (l.take gk))) := cell_of_row _ _ _ _ _ _ hA4
      have q1 : w4.cell? ⟨bA, 1, none⟩ = some (.int .i64 gk) := cell_of_row _ _ _ _ _ _ hA4
      have qf : ∀ j, w4.frozen? ⟨bA, j, none⟩ = false := fun j => frozen_of_row _ _ _ _ _ hA4
      have r0 : w4.cell? ⟨wr.heap.size, 0, none⟩ = some (.int .u64 0) := cell_of_row _ _ _ _ _ _ h94
      have r1 : w4.cell? ⟨wr.heap.size, 1, none⟩ = some (.int .i64 0) := cell_of_row _ _ _ _ _ _ h94
      have rf : ∀ j, w4.frozen? ⟨wr.heap.size, j, none⟩ = false := fun j => frozen_of_row _ _ _ _ _ h94
      go_upto_region 7 with fail
      have nAB := hAB.out
      have hA5 : ((((w4.setCell ⟨bA, 0, none⟩ (.int .u64 (bN (l.take (gk - 1))))).setCell ⟨bA, 1, none⟩ (.int .i64 ((gk : Int) - 1))).setCell ⟨wr.heap.size, 0, none⟩ (.int .u64 (bN [g]))).setCell ⟨wr.heap.size, 1, none⟩ (.int .i64 1)).heap[bA]? = some (.cells #[.int .u64 (bN (l.take (gk - 1))), .int .i64 ((gk : Int) - 1)] 71 (0, 0)) := by
        rw [heap_setCell_other _ _ _ _ n9A.symm, heap_setCell_other _ _ _ _ n9A.symm, heap_setCell_same _ _ _ _ _ _ (heap_setCell_same _ _ _ _ _ _ hA4)]; rfl
      have hB5 : ((((w4.setCell ⟨bA, 0, none⟩ (.int .u64 (bN (l.take (gk - 1))))).setCell ⟨bA, 1, none⟩ (.int .i64 ((gk : Int) - 1))).setCell ⟨wr.heap.size, 0, none⟩ (.int .u64 (bN [g]))).setCell ⟨wr.heap.size, 1, none⟩ (.int .i64 1)).heap[bB]? = some (.cells #[.int .u64 (bN (l.drop gk)), .int .i64 d] 71 (0, 0)) := by
        rw [heap_setCell_other _ _ _ _ n9B.symm, heap_setCell_other _ _ _ _ n9B.symm, heap_setCell_other _ _ _ _ nAB.symm, heap_setCell_other _ _ _ _ nAB.symm]; exact hB4
      have h95 : ((((w4.setCell ⟨bA, 0, none⟩ (.int .u64 (bN (l.take (gk - 1))))).setCell ⟨bA, 1, none⟩ (.int .i64 ((gk : Int) - 1))).setCell ⟨wr.heap.size, 0, none⟩ (.int .u64 (bN [g]))).setCell ⟨wr.heap.size, 1, none⟩ (.int .i64 1)).heap[wr.heap.size]? = some (.cells #[.int .u64 (bN [g]), .int .i64 1] 71 (0, 0)) := by
        rw [heap_setCell_same _ _ _ _ 71 _ (heap_setCell_same _ _ _ _ 71 _ (((heap_setCell_other _ _ _ _ n9A).trans (heap_setCell_other _ _ _ _ n9A)).trans h94))]; rfl
      have hf5 : Below w.heap.size w ((((w4.setCell ⟨bA, 0, none⟩ (.int .u64 (bN (l.take (gk - 1))))).setCell ⟨bA, 1, none⟩ (.int .i64 ((gk : Int) - 1))).setCell ⟨wr.heap.size, 0, none⟩ (.int .u64 (bN [g]))).setCell ⟨wr.heap.size, 1, none⟩ (.int .i64 1)) :=
        ((((V.out.below.trans ((hb9.mono V.out.below.size).trans (hk4.mono (Nat.le_trans V.out.below.size hb9.size)))).setCell (p := ⟨bA, 0, none⟩) hA.out _).setCell (p := ⟨bA, 1, none⟩) hA.out _).setCell (p := ⟨wr.heap.size, 0, none⟩) V.out.below.size _).setCell (p := ⟨wr.heap.size, 1, none⟩) V.out.below.size _
      clear hk4 hb9 hz9 hA4 hB4 h94 q0 q1 qf r0 r1 rf
      generalize ((((w4.setCell ⟨bA, 0, none⟩ (.int .u64 (bN (l.take (gk - 1))))).setCell ⟨bA, 1, none⟩ (.int .i64 ((gk : Int) - 1))).setCell ⟨wr.heap.size, 0, none⟩ (.int .u64 (bN [g]))).setCell ⟨wr.heap.size, 1, none⟩ (.int .i64 1)) = w5 at *
      generalize wr.heap.size = b9 at *
      have u0 : w5.cell? ⟨bB, 0, none⟩ = some (.int .u64 (bN (l.drop gk))) := cell_of_row _ _ _ _ _ _ hB5
      have u1 : w5.cell? ⟨bB, 1, none⟩ = some (.int .i64 d) := cell_of_row _ _ _ _ _ _ hB5
      have v0 : w5.cell? ⟨b9, 0, none⟩ = some (.int .u64 (bN [g])) := cell_of_row _ _ _ _ _ _ h95
      have v1 : w5.cell? ⟨b9, 1, none⟩ = some (.int .i64 1) := cell_of_row _ _ _ _ _ _ h95
      have HA5 := Lib.hid hA5
      have HB5 := Lib.hid hB5
      have HF5 := Lib.hid hf5
      clear hA5 hB5 h95 hf5 n9A n9B nAB
      first | go_region_with (first | (go_at_call 47; refine (hG _).out.mono ?_; rintro o w6 ⟨rfl, hk6⟩; have HA6 := Lib.hid ((hk6.block _ (lt_heap HA5.out)).trans HA5.out); have HB6 := Lib.hid ((hk6.block _ (lt_heap HB5.out)).trans HB5.out); have HF6 := Lib.hid (HF5.out.drew.trans (hk6.mono HF5.out.size)); have t0 : w6.cell? ⟨bB, 0, none⟩ = some (.int .u64 (bN (l.drop gk))) := cell_of_row _ _ _ _ _ _ HB6.out; have t1 : w6.cell? ⟨bB, 1, none⟩ = some (.int .i64 d) := cell_of_row _ _ _ _ _ _ HB6.out; clear hk6) | (go_at_call 77; refine (hI _).out.mono ?_; rintro o w7 ⟨rfl, hk7⟩; have HA7 := Lib.hid ((hk7.block _ (lt_heap HA6.out)).trans HA6.out); have HB7 := Lib.hid ((hk7.block _ (lt_heap HB6.out)).trans HB6.out); have HF7 := Lib.hid (HF6.out.trans (hk7.mono HF6.out.size)); have s0 : w7.cell? ⟨bB, 0, none⟩ = some (.int .u64 (bN (l.drop gk))) := cell_of_row _ _ _ _ _ _ HB7.out; have s1 : w7.cell? ⟨bB, 1, none⟩ = some (.int .i64 d) := cell_of_row _ _ _ _ _ _ HB7.out; have sf : ∀ j, w7.frozen? ⟨bB, j, none⟩ = false := fun j => frozen_of_row _ _ _ _ _ HB7.out; clear hk7)) | fail
      all_goals
        go_wp2_with fail
        go_roundg (gk - 1)
        case measure => omega
        case rel => exact ⟨d + 1, by have := Hs.out; omega, by omega, by have := Hs.out; omega, by rw [show ((gk - 1 : Nat) : Int) = (gk : Int) - 1 by omega]; exact ((heap_setCell_other _ _ _ _ hAB.out).trans (heap_setCell_other _ _ _ _ hAB.out)).trans HA7.out, by rw [heap_setCell_same _ _ _ _ 71 _ (heap_setCell_same _ _ _ _ 71 _ HB7.out)]; rfl, (HF7.out.setCell (p := ⟨bB, 0, none⟩) hB.out _).setCell (p := ⟨bB, 1, none⟩) hB.out _⟩
    · have hg : (gk : Int) ≤ ((gk : Int) + (d : Int) + 1) / 2 := by have := Hs.out; omega
      go_wp2_with fail
      have V1 := Lib.hid (show gk ≤ (l.length + 1) / 2 ∧ Hv l bA bB w gk d wr from ⟨by omega, V.out⟩)
      clear V Hs hg g1 g2 a0 a1 b0 b1 hgt
      obtain ⟨wo, rfl⟩ : ∃ wo : World, wo = wr := ⟨_, rfl⟩
      obtain ⟨k0, rfl⟩ : ∃ k0 : Nat, k0 = gk := ⟨_, rfl⟩
      go_loopg [] d (fun d' W => ∃ k, k ≤ (l.length + 1) / 2 ∧ Hv l bA bB w k d' W)
      case atStart => exact ⟨k0, V1.out⟩
      case round =>
        obtain ⟨k, hk2, hv⟩ := hrel
        clear V1
        have hT := Hlt.out
        have hs := hv.sum
        have h64 := hv.k64
        have hd64 := hv.d64
        have V := Lib.hid hv
        have a0 : wr.cell? ⟨bA, 0, none⟩ = some (.int .u64 (bN (l.take k))) := cell_of_row _ _ _ _ _ _ hv.boxA
        have a1 : wr.cell? ⟨bA, 1, none⟩ = some (.int .i64 k) := cell_of_row _ _ _ _ _ _ hv.boxA
        have b0 : wr.cell? ⟨bB, 0, none⟩ = some (.int .u64 (bN (l.drop k))) := cell_of_row _ _ _ _ _ _ hv.boxB
        have b1 : wr.cell? ⟨bB, 1, none⟩ = some (.int .i64 gk) := cell_of_row _ _ _ _ _ _ hv.boxB
        have g1 : (k : Int) ≤ 64 := by omega
        have g2 : (gk : Int) ≤ 64 := by omega
        have Hs := Lib.hid (And.intro hT (And.intro hs (And.intro h64 (And.intro hd64 hk2))))
        clear hv hT hs h64 hd64 hk2
        by_cases hgt : k < gk
        · have hg : (k : Int) < (gk : Int) := by omega
          have hdl : (l.drop k).length = gk := by rw [List.length_drop]; have := Hs.out; omega
          have hS := fun w => lsplit_is (l.drop k) 1 w (by have := Hs.out; omega) (by have := Hs.out; omega)
          rw [hdl, take_drop_one (by have := Hs.out; omega), List.drop_drop] at hS
          have hG := fun w => Lib.hid (show Calls Try.prog 47 #[.agg #[.int .u64 (bN [l.getD k false]), .int .i64 1], .int .i64 0] w fun e w' => e = .returned (.bool (l.getD k false)) ∧ Below w.heap.size w w' from lget_is [l.getD k false] 0 w (show 1 ≤ 64 by omega) (show 0 < 1 by omega))
          have htl : (l.take k).length = k := by rw [List.length_take]; have := Hs.out; omega
          have hI := fun w => lins_yes (l.take k) k (l.getD k false) w (by have := Hs.out; omega) (by omega)
          rw [ins_succ (by have := Hs.out; omega), htl, show (l.take (k + 1)).length = k + 1 by rw [List.length_take]; have := Hs.out; omega] at hI
          replace hI := fun w => Lib.hid (hI w)
          replace hS := fun w => Lib.hid (show Calls Try.prog 79 #[.agg #[.int .u64 (bN (l.drop k)), .int .i64 gk], .int .i64 1] w _ from hS w)
          clear hdl htl
          generalize l.getD k false = g at *
          have hd1 : ((gk - 1 : Nat) : Int) = (gk : Int) - 1 := by omega
          have Hd1 := Lib.hid hd1
          clear hd1
          go_wp2_with fail
          refine (hS _).out.mono ?_
          rintro o w4 ⟨rfl, hk4⟩
          have hA4 := (hk4.block _ (lt_heap V.out.boxA)).trans V.out.boxA
          have hB4 := (hk4.block _ (lt_heap V.out.boxB)).trans V.out.boxB
          have hf4 := V.out.below.trans (hk4.mono V.out.below.size)
          clear hk4 a0 a1 b0 b1
          go_upto_region 10 with fail
          have hA5 := (Below.heap_alloc (w4.alloc (.cells #[.int .u64 (bN [g]), .int .i64 ((1 : Nat) : Int)] 71)) (.cells #[.int .u64 (bN (l.drop (k + 1))), .int .i64 ((gk - 1 : Nat) : Int)] 71) bA (by have := lt_heap hA4; simp; omega)).trans ((Below.heap_alloc w4 _ bA (lt_heap hA4)).trans hA4)
          have hB5 := (Below.heap_alloc (w4.alloc (.cells #[.int .u64 (bN [g]), .int .i64 ((1 : Nat) : Int)] 71)) (.cells #[.int .u64 (bN (l.drop (k + 1))), .int .i64 ((gk - 1 : Nat) : Int)] 71) bB (by have := lt_heap hB4; simp; omega)).trans ((Below.heap_alloc w4 _ bB (lt_heap hB4)).trans hB4)
          have h10 := (Below.heap_alloc (w4.alloc (.cells #[.int .u64 (bN [g]), .int .i64 ((1 : Nat) : Int)] 71)) (.cells #[.int .u64 (bN (l.drop (k + 1))), .int .i64 ((gk - 1 : Nat) : Int)] 71) w4.heap.size (by simp)).trans (heap_alloc_new w4 (.cells #[.int .u64 (bN [g]), .int .i64 ((1 : Nat) : Int)] 71))
          have h11 := al2_1 w4 (.cells #[.int .u64 (bN [g]), .int .i64 ((1 : Nat) : Int)] 71) (.cells #[.int .u64 (bN (l.drop (k + 1))), .int .i64 ((gk - 1 : Nat) : Int)] 71)
          have hf5 := (hf4.alloc hf4.size (.cells #[.int .u64 (bN [g]), .int .i64 ((1 : Nat) : Int)] 71)).alloc (by have := hf4.size; simp; omega) (.cells #[.int .u64 (bN (l.drop (k + 1))), .int .i64 ((gk - 1 : Nat) : Int)] 71)
          have n11A : bA ≠ w4.heap.size + 1 := by have := lt_heap hA4; omega
          clear hA4 hB4 hf4
          generalize (w4.alloc (.cells #[.int .u64 (bN [g]), .int .i64 ((1 : Nat) : Int)] 71)).alloc (.cells #[.int .u64 (bN (l.drop (k + 1))), .int .i64 ((gk - 1 : Nat) : Int)] 71) = w5 at *
          generalize w4.heap.size + 1 = b11 at *
          generalize w4.heap.size = b10 at *
          have u0 : w5.cell? ⟨bA, 0, none⟩ = some (.int .u64 (bN (l.take k))) := cell_of_row _ _ _ _ _ _ hA5
          have u1 : w5.cell? ⟨bA, 1, none⟩ = some (.int .i64 k) := cell_of_row _ _ _ _ _ _ hA5
          have v0 : w5.cell? ⟨b10, 0, none⟩ = some (.int .u64 (bN [g])) := cell_of_row _ _ _ _ _ _ h10
          have v1 : w5.cell? ⟨b10, 1, none⟩ = some (.int .i64 1) := cell_of_row _ _ _ _ _ _ h10
          have HA5 := Lib.hid hA5
          have HB5 := Lib.hid hB5
          have H115 := Lib.hid h11
          have HF5 := Lib.hid hf5
          have N11A := Lib.hid n11A
          clear hA5 hB5 h10 h11 hf5 n11A
          go_cut [58] (fun _ W => W.heap[bA]? = some (.cells #[.int .u64 (bN (l.take (k + 1))), .int .i64 ((k : Int) + 1)] 71 (0, 0)) ∧ W.heap[bB]? = some (.cells #[.int .u64 (bN (l.drop k)), .int .i64 gk] 71 (0, 0)) ∧ W.heap[b11]? = some (.cells #[.int .u64 (bN (l.drop (k + 1))), .int .i64 ((gk - 1 : Nat) : Int)] 71 (0, 0)) ∧ Below w.heap.size w W)
          case first =>
            first | go_region_with (first | (go_at_call 47; refine (hG _).out.mono ?_; rintro o w6 ⟨rfl, hk6⟩; have HA6 := Lib.hid ((hk6.block _ (lt_heap HA5.out)).trans HA5.out); have HB6 := Lib.hid ((hk6.block _ (lt_heap HB5.out)).trans HB5.out); have H116 := Lib.hid ((hk6.block _ (lt_heap H115.out)).trans H115.out); have HF6 := Lib.hid (HF5.out.drew.trans (hk6.mono HF5.out.size)); have t0 : w6.cell? ⟨bA, 0, none⟩ = some (.int .u64 (bN (l.take k))) := cell_of_row _ _ _ _ _ _ HA6.out; have t1 : w6.cell? ⟨bA, 1, none⟩ = some (.int .i64 k) := cell_of_row _ _ _ _ _ _ HA6.out; clear hk6) | (go_at_call 77; refine (hI _).out.mono ?_; rintro o w7 ⟨rfl, hk7⟩; have HA7 := Lib.hid ((hk7.block _ (lt_heap HA6.out)).trans HA6.out); have HB7 := Lib.hid ((hk7.block _ (lt_heap HB6.out)).trans HB6.out); have H117 := Lib.hid ((hk7.block _ (lt_heap H116.out)).trans H116.out); have HF7 := Lib.hid (HF6.out.trans (hk7.mono HF6.out.size)); have s0 : w7.cell? ⟨bA, 0, none⟩ = some (.int .u64 (bN (l.take k))) := cell_of_row _ _ _ _ _ _ HA7.out; have s1 : w7.cell? ⟨bA, 1, none⟩ = some (.int .i64 k) := cell_of_row _ _ _ _ _ _ HA7.out; have sf : ∀ j, w7.frozen? ⟨bA, j, none⟩ = false := fun j => frozen_of_row _ _ _ _ _ HA7.out; clear hk7)) | fail
            all_goals
              have nAB := hAB.out
              go_wp2_with fail
              go_meet
              case rel => exact ⟨by rw [heap_setCell_same _ _ _ _ 71 _ (heap_setCell_same _ _ _ _ 71 _ HA7.out)]; rfl, ((heap_setCell_other _ _ _ _ nAB.symm).trans (heap_setCell_other _ _ _ _ nAB.symm)).trans HB7.out, ((heap_setCell_other _ _ _ _ N11A.out.symm).trans (heap_setCell_other _ _ _ _ N11A.out.symm)).trans H117.out, (HF7.out.setCell (p := ⟨bA, 0, none⟩) hA.out _).setCell (p := ⟨bA, 1, none⟩) hA.out _⟩
          case rest =>
            obtain ⟨hA8, hB8, h118, hf8⟩ := hcut
            obtain ⟨w8, rfl⟩ : ∃ w8 : World, w8 = wc := ⟨_, rfl⟩
            have x0 : w8.cell? ⟨b11, 0, none⟩ = some (.int .u64 (bN (l.drop (k + 1)))) := cell_of_row _ _ _ _ _ _ h118
            have x1 : w8.cell? ⟨b11, 1, none⟩ = some (.int .i64 ((gk - 1 : Nat) : Int)) := cell_of_row _ _ _ _ _ _ h118
            have z0 : w8.cell? ⟨bB, 0, none⟩ = some (.int .u64 (bN (l.drop k))) := cell_of_row _ _ _ _ _ _ hB8
            have z1 : w8.cell? ⟨bB, 1, none⟩ = some (.int .i64 gk) := cell_of_row _ _ _ _ _ _ hB8
            have zf : ∀ j, w8.frozen? ⟨bB, j, none⟩ = false := fun j => frozen_of_row _ _ _ _ _ hB8
            have HA8 := Lib.hid hA8
            have HB8 := Lib.hid hB8
            have HF8 := Lib.hid hf8
            clear hA8 hB8 h118 hf8 u0 u1 v0 v1
            go_wp2_with fail
            go_roundg (gk - 1)
            case measure => omega
            case rel => exact ⟨k + 1, by have := Hs.out; omega, by have := Hs.out; omega, by have := Hs.out; omega, by omega, by rw [show ((k + 1 : Nat) : Int) = (k : Int) + 1 by omega]; exact ((heap_setCell_other _ _ _ _ hAB.out).trans (heap_setCell_other _ _ _ _ hAB.out)).trans HA8.out, by rw [heap_setCell_same _ _ _ _ 71 _ (heap_setCell_same _ _ _ _ 71 _ HB8.out)]; rfl, (HF8.out.setCell (p := ⟨bB, 0, none⟩) hB.out _).setCell (p := ⟨bB, 1, none⟩) hB.out _⟩
        · have hg : (gk : Int) ≤ (k : Int) := by omega
          have hkk : k = (l.length + 1) / 2 := by have := Hs.out; omega
          have htl : (l.take ((l.length + 1) / 2)).length = k := by rw [List.length_take]; have := Hs.out; omega
          have hdl : (l.drop ((l.length + 1) / 2)).length = gk := by rw [List.length_drop]; have := Hs.out; omega
          rw [htl, ← hkk] at L1
          rw [hdl, ← hkk] at L2
          replace L1 := fun K w ha => Lib.hid (L1 K w ha)
          replace L2 := fun K w ha => Lib.hid (L2 K w ha)
          clear hkk htl hdl
          obtain ⟨K1, hK1⟩ : ∃ K1 : Nat → Prop, K1 = fun b => K b ∨ b = bA ∨ b = bB := ⟨_, rfl⟩
          have T7 := Lib.hid (Ha.out.newK (K' := K1) V.out.below fun b hb => by
            rw [hK1] at hb
            rcases hb with hb | rfl | rfl
            · exact ⟨Nat.lt_of_lt_of_le (Ha.out.ars.lt b (.inl hb)) V.out.below.size, .inl hb⟩
            · exact ⟨lt_heap V.out.boxA, .inr hA.out⟩
            · exact ⟨lt_heap V.out.boxB, .inr hB.out⟩)
          have kB := Lib.hid (show K1 bB by rw [hK1]; exact .inr (.inr rfl))
          have hKK := Lib.hid (show ∀ b, K b → K1 b from fun b hb => by rw [hK1]; exact .inl hb)
          clear hK1
          go_wp2_with fail
          refine (L1 K1 _ T7.out).out.mono ?_
          rintro o w6 ⟨rfl, h6, k6⟩
          have T8 := Lib.hid h6
          have Hk6 := Lib.hid k6
          have hr17 := (k6.block _ (lt_heap V.out.boxB) kB.out).trans V.out.boxB
          have c0 : w6.cell? ⟨bB, 0, none⟩ = some (.int .u64 (bN (l.drop k))) := cell_of_row _ _ _ _ _ _ hr17
          have c1 : w6.cell? ⟨bB, 1, none⟩ = some (.int .i64 gk) := cell_of_row _ _ _ _ _ _ hr17
          clear h6 k6 hr17 a0 a1 b0 b1
          go_wp2_with fail
          refine (L2 K1 _ T8.out).out.mono ?_
          rintro o w7 ⟨rfl, h7, k7⟩
          have T9 := Lib.hid h7
          have Hk7 := Lib.hid k7
          clear h7 k7
          go_wp2_with fail
          refine (HP K1 _ T9.out).out.mono ?_
          rintro o w8 ⟨rfl, h8, k8⟩
          go_wp2_with fail
          go_ret
          exact ⟨rfl, h8.more hKK.out, (((Kept.of_below V.out.below K).trans (Hk6.out.mono fun b _ h => hKK.out b h)).trans (Hk7.out.mono fun b _ h => hKK.out b h)).trans (k8.mono fun b _ h => hKK.out b h)⟩
end
end Go.Proofs.Ytdipgcbppggdhaa
