/- Lists where there is no arena, or the node is of another tag: what the functions answer. -/
import Derived.Test.YtlnnljkifdmmlaaA0
import Derived.Test.YtlnnljkifdmmlaaL23
namespace Go.Proofs.Ytlnnljkifdmmlaa
open Go.RowKit
section
variable {K : Nat → Prop} {p : Nat} {s : Ar} {w : World}
set_option maxHeartbeats 8000000 in
theorem lnode_other {x : Nd} {c : Int} (i : Int) (hr : s.get i = (x, true)) (hc : s.count i = c) (hc0 : 0 < c) (ht4 : (x.tag == 4) = false) (ht5 : (x.tag == 5) = false) (ha : Ars w K p s) (hf : s.Fit) :
    Calls Try.prog 38 #[.pointer (some ⟨p, 0, none⟩), .int .i64 i] w fun r w' => r = .returned (.tuple #[.agg #[.int .i64 x.tag, .int .i64 x.k0, .int .i64 x.k1, .int .i64 x.k2, .int .i64 x.k3, .int .u64 x.A, .int .u64 x.B], .bool false]) ∧ Ars w' K p s ∧ Below w.heap.size w w' := by
  have Hc := Lib.hid hc
  have Hf := Lib.hid hf
  have H := fun o => Lib.hid (get_is i hr (ha.allocK o) hf)
  have hK : ∀ b, K b → b < w.heap.size := ha.lt
  clear hr hc hf ha
  go_enter Try.func38, Try.ntmps38
  go_wp2_with fail
  refine (H _).out.mono ?_
  clear H
  rintro e w1 ⟨rfl, ha, hk⟩
  go_wp2_with fail
  have hr : w1.heap[w.heap.size]? = some (.cells #[.int .i64 0, .int .i64 0, .int .i64 0, .int .i64 0, .int .i64 0, .int .u64 0, .int .u64 0] 42 (0, 0)) := by
    rw [hk.block _ (by simp)]; exact heap_alloc_new _ _
  have hq := lt_heap hr
  have Hk := Lib.hid (((Below.refl _ w).alloc (Nat.le_refl _) _).trans ((hk.mono (by simp)).alloc (by omega) (.cells #[.int .i64 x.tag, .int .i64 x.k0, .int .i64 x.k1, .int .i64 x.k2, .int .i64 x.k3, .int .u64 x.A, .int .u64 x.B] 42)))
  replace hr := (Below.heap_alloc w1 (.cells #[.int .i64 x.tag, .int .i64 x.k0, .int .i64 x.k1, .int .i64 x.k2, .int .i64 x.k3, .int .u64 x.A, .int .u64 x.B] 42) _ hq).trans hr
  have hx := heap_alloc_new w1 (.cells #[.int .i64 x.tag, .int .i64 x.k0, .int .i64 x.k1, .int .i64 x.k2, .int .i64 x.k3, .int .u64 x.A, .int .u64 x.B] 42)
  replace ha := ha.alloc (.cells #[.int .i64 x.tag, .int .i64 x.k0, .int .i64 x.k1, .int .i64 x.k2, .int .i64 x.k3, .int .u64 x.A, .int .u64 x.B] 42)
  clear hk
  generalize w1.alloc (.cells #[.int .i64 x.tag, .int .i64 x.k0, .int .i64 x.k1, .int .i64 x.k2, .int .i64 x.k3, .int .u64 x.A, .int .u64 x.B] 42) = w2 at *
  generalize w1.heap.size = q at *
  have x0 : w2.cell? ⟨q, 0, none⟩ = some (.int .i64 x.tag) := cell_of_row _ _ _ _ _ _ hx
  have x1 : w2.cell? ⟨q, 1, none⟩ = some (.int .i64 x.k0) := cell_of_row _ _ _ _ _ _ hx
  have x2 : w2.cell? ⟨q, 2, none⟩ = some (.int .i64 x.k1) := cell_of_row _ _ _ _ _ _ hx
  have x3 : w2.cell? ⟨q, 3, none⟩ = some (.int .i64 x.k2) := cell_of_row _ _ _ _ _ _ hx
  have x4 : w2.cell? ⟨q, 4, none⟩ = some (.int .i64 x.k3) := cell_of_row _ _ _ _ _ _ hx
  have x5 : w2.cell? ⟨q, 5, none⟩ = some (.int .u64 x.A) := cell_of_row _ _ _ _ _ _ hx
  have x6 : w2.cell? ⟨q, 6, none⟩ = some (.int .u64 x.B) := cell_of_row _ _ _ _ _ _ hx
  have r0 : w2.cell? ⟨w.heap.size, 0, none⟩ = some (.int .i64 0) := cell_of_row _ _ _ _ _ _ hr
  have r1 : w2.cell? ⟨w.heap.size, 1, none⟩ = some (.int .i64 0) := cell_of_row _ _ _ _ _ _ hr
  have r2 : w2.cell? ⟨w.heap.size, 2, none⟩ = some (.int .i64 0) := cell_of_row _ _ _ _ _ _ hr
  have r3 : w2.cell? ⟨w.heap.size, 3, none⟩ = some (.int .i64 0) := cell_of_row _ _ _ _ _ _ hr
  have r4 : w2.cell? ⟨w.heap.size, 4, none⟩ = some (.int .i64 0) := cell_of_row _ _ _ _ _ _ hr
  have r5 : w2.cell? ⟨w.heap.size, 5, none⟩ = some (.int .u64 0) := cell_of_row _ _ _ _ _ _ hr
  have r6 : w2.cell? ⟨w.heap.size, 6, none⟩ = some (.int .u64 0) := cell_of_row _ _ _ _ _ _ hr
  have rf : ∀ j, w2.frozen? ⟨w.heap.size, j, none⟩ = false := fun j => frozen_of_row _ _ _ _ _ hr
  have Ha := Lib.hid ha
  clear ha hx hr
  generalize hz : w.heap.size = z at *
  have H1 := Lib.hid (count_is i Hc.out Ha.out Hf.out)
  have H2 := Lib.hid (count_is i Hc.out Ha.out.drew Hf.out)
  have hend : Ars w2 (fun b => K b ∨ b = z) p s := Ha.out
  first | go_region_with (go_at_call 39; first | refine H1.out.mono ?_ | refine H2.out.mono ?_; rintro e w' ⟨rfl, rfl⟩) | fail
  all_goals go_wp2_with fail
  all_goals exact bodyPost_ret (v := .tuple #[.agg #[.int .i64 x.tag, .int .i64 x.k0, .int .i64 x.k1, .int .i64 x.k2, .int .i64 x.k3, .int .u64 x.A, .int .u64 x.B], .bool false]) (by simp [results, Try.results38, go_sem, r0, r1, r2, r3, r4, r5, r6]) rfl ⟨rfl, lnode_ars Ha.out .., by rw [hz]; exact lnode_below Hk.out ..⟩
end
set_option maxHeartbeats 8000000 in
theorem lnode_none (i : Int) (w : World) :
    Calls Try.prog 38 #[.pointer none, .int .i64 i] w fun r w' => r = .returned (.tuple #[.agg #[.int .i64 0, .int .i64 0, .int .i64 0, .int .i64 0, .int .i64 0, .int .u64 0, .int .u64 0], .bool false]) ∧ Below w.heap.size w w' := by
  have H := fun (o : Obj) => Lib.hid (get_none i (w.alloc o))
  go_enter Try.func38, Try.ntmps38
  go_wp2_with fail
  refine (H _).out.mono ?_
  clear H
  rintro e w1 ⟨rfl, hk⟩
  go_wp2_with fail
  have hr : w1.heap[w.heap.size]? = some (.cells #[.int .i64 0, .int .i64 0, .int .i64 0, .int .i64 0, .int .i64 0, .int .u64 0, .int .u64 0] 42 (0, 0)) := by
    rw [hk.block _ (by simp)]; exact heap_alloc_new _ _
  have hq := lt_heap hr
  have Hk := Lib.hid (((Below.refl _ w).alloc (Nat.le_refl _) _).trans ((hk.mono (by simp)).alloc (by omega) (.cells #[.int .i64 0, .int .i64 0, .int .i64 0, .int .i64 0, .int .i64 0, .int .u64 0, .int .u64 0] 42)))
  replace hr := (Below.heap_alloc w1 (.cells #[.int .i64 0, .int .i64 0, .int .i64 0, .int .i64 0, .int .i64 0, .int .u64 0, .int .u64 0] 42) _ hq).trans hr
  have hx := heap_alloc_new w1 (.cells #[.int .i64 0, .int .i64 0, .int .i64 0, .int .i64 0, .int .i64 0, .int .u64 0, .int .u64 0] 42)
  clear hk
  generalize w1.alloc (.cells #[.int .i64 0, .int .i64 0, .int .i64 0, .int .i64 0, .int .i64 0, .int .u64 0, .int .u64 0] 42) = w2 at *
  generalize w1.heap.size = q at *
  have x0 : w2.cell? ⟨q, 0, none⟩ = some (.int .i64 0) := cell_of_row _ _ _ _ _ _ hx
  have x1 : w2.cell? ⟨q, 1, none⟩ = some (.int .i64 0) := cell_of_row _ _ _ _ _ _ hx
  have x2 : w2.cell? ⟨q, 2, none⟩ = some (.int .i64 0) := cell_of_row _ _ _ _ _ _ hx
  have x3 : w2.cell? ⟨q, 3, none⟩ = some (.int .i64 0) := cell_of_row _ _ _ _ _ _ hx
  have x4 : w2.cell? ⟨q, 4, none⟩ = some (.int .i64 0) := cell_of_row _ _ _ _ _ _ hx
  have x5 : w2.cell? ⟨q, 5, none⟩ = some (.int .u64 0) := cell_of_row _ _ _ _ _ _ hx
  have x6 : w2.cell? ⟨q, 6, none⟩ = some (.int .u64 0) := cell_of_row _ _ _ _ _ _ hx
  have r0 : w2.cell? ⟨w.heap.size, 0, none⟩ = some (.int .i64 0) := cell_of_row _ _ _ _ _ _ hr
  have r1 : w2.cell? ⟨w.heap.size, 1, none⟩ = some (.int .i64 0) := cell_of_row _ _ _ _ _ _ hr
  have r2 : w2.cell? ⟨w.heap.size, 2, none⟩ = some (.int .i64 0) := cell_of_row _ _ _ _ _ _ hr
  have r3 : w2.cell? ⟨w.heap.size, 3, none⟩ = some (.int .i64 0) := cell_of_row _ _ _ _ _ _ hr
  have r4 : w2.cell? ⟨w.heap.size, 4, none⟩ = some (.int .i64 0) := cell_of_row _ _ _ _ _ _ hr
  have r5 : w2.cell? ⟨w.heap.size, 5, none⟩ = some (.int .u64 0) := cell_of_row _ _ _ _ _ _ hr
  have r6 : w2.cell? ⟨w.heap.size, 6, none⟩ = some (.int .u64 0) := cell_of_row _ _ _ _ _ _ hr
  have rf : ∀ j, w2.frozen? ⟨w.heap.size, j, none⟩ = false := fun j => frozen_of_row _ _ _ _ _ hr
  clear hx hr
  generalize hz : w.heap.size = z at *
  go_region
  all_goals go_wp2_with fail
  all_goals exact bodyPost_ret (v := .tuple #[.agg #[.int .i64 0, .int .i64 0, .int .i64 0, .int .i64 0, .int .i64 0, .int .u64 0, .int .u64 0], .bool false]) (by simp [results, Try.results38, go_sem, r0, r1, r2, r3, r4, r5, r6]) rfl ⟨rfl, by rw [hz]; exact lnode_below Hk.out ..⟩
set_option maxHeartbeats 1000000 in
theorem len_none (h : Int) (w : World) : Calls Try.prog 17 #[.pointer none, .int .i64 h] w fun e w' => e = .returned (.int .i64 0) ∧ Below w.heap.size w w' := by
  have H := Lib.hid (lnode_none h w)
  go_enter Try.func17, Try.ntmps17
  go_wp2_with fail
  refine H.out.mono ?_
  rintro e w1 ⟨rfl, hk⟩
  go_wp2_with fail
  go_ret
  exact ⟨rfl, hk.alloc hk.size _⟩
section
variable {K : Nat → Prop} {p : Nat} {s : Ar} {w : World}
set_option maxHeartbeats 1000000 in
theorem len_other {x : Nd} {c : Int} (h : Int) (hr : s.get h = (x, true)) (hc : s.count h = c) (hc0 : 0 < c) (ht4 : (x.tag == 4) = false) (ht5 : (x.tag == 5) = false) (ha : Ars w K p s) (hf : s.Fit) : Calls Try.prog 17 #[.pointer (some ⟨p, 0, none⟩), .int .i64 h] w fun e w' => e = .returned (.int .i64 0) ∧ Ars w' K p s ∧ Below w.heap.size w w' := by
  have H := Lib.hid (lnode_other h hr hc hc0 ht4 ht5 ha hf)
  clear ha hr hc hf
  go_enter Try.func17, Try.ntmps17
  go_wp2_with fail
  refine H.out.mono ?_
  rintro e w1 ⟨rfl, ha, hk⟩
  go_wp2_with fail
  go_ret
  exact ⟨rfl, ha.alloc _, hk.alloc hk.size _⟩
set_option maxHeartbeats 1000000 in
theorem get_other {x : Nd} {c : Int} (h : Int) (hr : s.get h = (x, true)) (hc : s.count h = c) (hc0 : 0 < c) (ht4 : (x.tag == 4) = false) (ht5 : (x.tag == 5) = false) (ha : Ars w K p s) (hf : s.Fit) : Calls Try.prog 19 #[.pointer (some ⟨p, 0, none⟩), .int .i64 h, .int .i64 0] w fun e w' => e = .returned (.tuple #[.agg #[.int .i64 0, .int .i64 0], .bool false]) ∧ Below w.heap.size w w' := by
  have HL := fun w (ha : Ars w K p s) => Lib.hid (len_other h hr hc hc0 ht4 ht5 ha hf)
  have Ha := Lib.hid ha
  clear ha hr hc hf
  go_enter Try.func19, Try.ntmps19
  go_wp2_with fail
  have hres := heap_alloc_new w (.cells #[.int .i64 0, .int .i64 0] 24)
  refine (HL _ (Ha.out.alloc _)).out.mono ?_
  clear HL
  rintro e w1 ⟨rfl, ha1, hk1⟩
  have hres1 := (hk1.block _ (by simp)).trans hres
  have b1 := Lib.hid (((Below.refl w.heap.size w).alloc (Nat.le_refl _) (.cells #[.int .i64 0, .int .i64 0] 24)).trans (hk1.mono (by simp)))
  have f0 : w1.cell? ⟨w.heap.size, 0, none⟩ = some (.int .i64 0) := cell_of_row _ _ _ _ _ _ hres1
  have f1 : w1.cell? ⟨w.heap.size, 1, none⟩ = some (.int .i64 0) := cell_of_row _ _ _ _ _ _ hres1
  have fz0 : w1.frozen? ⟨w.heap.size, 0, none⟩ = false := frozen_of_row _ _ _ _ _ hres1
  have fz1 : w1.frozen? ⟨w.heap.size, 1, none⟩ = false := frozen_of_row _ _ _ _ _ hres1
  clear hres hk1 ha1 hres1
  go_wp2_with fail
  exact bodyPost_ret (v := .tuple #[.agg #[.int .i64 0, .int .i64 0], .bool false]) (by simp [results, Try.results19, go_sem, f0, f1]) rfl ⟨rfl, (b1.out.setCell (Nat.le_refl _) _).setCell (Nat.le_refl _) _⟩
set_option maxHeartbeats 1000000 in
theorem all_other {x : Nd} {c : Int} (h : Int) (hr : s.get h = (x, true)) (hc : s.count h = c) (hc0 : 0 < c) (ht4 : (x.tag == 4) = false) (ht5 : (x.tag == 5) = false) (ha : Ars w K p s) (hf : s.Fit) : Calls Try.prog 16 #[.pointer (some ⟨p, 0, none⟩), .int .i64 h] w fun e w' => e = .returned (.slice none 0 0) ∧ Below w.heap.size w w' := by
  have HL := Lib.hid (len_other h hr hc hc0 ht4 ht5 ha hf)
  clear ha hr hc hf
  go_enter Try.func16, Try.ntmps16
  go_wp2_with fail
  refine HL.out.mono ?_
  clear HL
  rintro e w1 ⟨rfl, ha1, hk1⟩
  have B1 := Lib.hid hk1
  clear ha1 hk1
  go_wp2_with fail
  go_loopw [5, 12] (fun v i W => v = .slice none 0 0 ∧ i = .int .i64 0 ∧ W = w1) (fun _ _ _ => 0)
  case atStart => exact ⟨rfl, rfl, rfl⟩
  case round =>
    obtain ⟨rfl, rfl, rfl⟩ := hrel
    go_wp2_with fail
    go_ret
    exact ⟨rfl, B1.out⟩
end
/-- A tree without an arena. -/
structure TreN (w : World) (K : Nat → Prop) (q : Nat) (e : Int) : Prop where
  hq : w.heap[q]? = some (.cells #[.pointer none, .int .i64 e] 65 (0, 0))
  kq : ¬ K q
section
variable {w w' : World} {K : Nat → Prop} {q : Nat} {e : Int}
theorem TreN.cell (h : TreN w K q e) (i : Nat) : w.cell? ⟨q, i, none⟩ = (#[.pointer none, .int .i64 e] : Array Value)[i]? := cell_of_row _ _ _ _ _ _ h.hq
theorem TreN.c0 (h : TreN w K q e) : w.cell? ⟨q, 0, none⟩ = some (.pointer none) := h.cell 0
theorem TreN.c1 (h : TreN w K q e) : w.cell? ⟨q, 1, none⟩ = some (.int .i64 e) := h.cell 1
theorem TreN.fz (h : TreN w K q e) (i : Nat) : w.frozen? ⟨q, i, none⟩ = false := frozen_of_row _ _ _ _ _ h.hq
theorem TreN.below (h : TreN w K q e) (hb : Below w.heap.size w w') : TreN w' K q e := ⟨(hb.block q (lt_heap h.hq)).trans h.hq, h.kq⟩
theorem TreN.drew (h : TreN w K q e) : TreN w.drew K q e := ⟨h.hq, h.kq⟩
theorem TreN.set1 (h : TreN w K q e) (v : Int) : TreN (w.setCell ⟨q, 1, none⟩ (.int .i64 v)) K q v := ⟨by rw [heap_setCell_same _ _ _ _ _ _ h.hq]; rfl, h.kq⟩
set_option maxHeartbeats 4000000 in
theorem tnode_none {a b : Int} (ha : TreN w K q 0) :
    Calls Try.prog 43 #[.pointer (some ⟨q, 0, none⟩), .agg #[.int .i64 4, .int .i64 0, .int .i64 0, .int .i64 0, .int .i64 0, .int .u64 a, .int .u64 b]] w fun r w' => r = .returned (.int .i64 0) ∧ TreN w' K q 2 ∧ Kept K w w' := by
  have HM := fun w => Lib.hid (make_no_arena (t := 4) (a := a) (b := b) (by decide) (by decide) w)
  have hql := lt_heap ha.hq
  have hx := heap_alloc_new w (.cells #[.int .i64 4, .int .i64 0, .int .i64 0, .int .i64 0, .int .i64 0, .int .u64 a, .int .u64 b] 42)
  have hb0 := (Below.refl w.heap.size w).alloc (Nat.le_refl _) (.cells #[.int .i64 4, .int .i64 0, .int .i64 0, .int .i64 0, .int .i64 0, .int .u64 a, .int .u64 b] 42)
  have Hk := Lib.hid (Kept.of_below hb0 K)
  have Ha := Lib.hid (ha.below hb0)
  have c0 := Ha.out.c0
  have c1 := Ha.out.c1
  have Hx := Lib.hid hx
  have Kq := Lib.hid ha.kq
  clear ha hx hb0
  go_enter Try.func43, Try.ntmps43
  go_wp2_with fail
  generalize w.alloc (.cells #[.int .i64 4, .int .i64 0, .int .i64 0, .int .i64 0, .int .i64 0, .int .u64 a, .int .u64 b] 42) = w1 at *
  generalize w.heap.size = z at *
  have hz := Lib.hid (lt_heap Hx.out)
  have hzq : Hid (z ≠ q) := by show z ≠ q; omega
  have x0 : w1.cell? ⟨z, 0, none⟩ = some (.int .i64 4) := cell_of_row _ _ _ _ _ _ Hx.out
  have x1 : w1.cell? ⟨z, 1, none⟩ = some (.int .i64 0) := cell_of_row _ _ _ _ _ _ Hx.out
  have x2 : w1.cell? ⟨z, 2, none⟩ = some (.int .i64 0) := cell_of_row _ _ _ _ _ _ Hx.out
  have x3 : w1.cell? ⟨z, 3, none⟩ = some (.int .i64 0) := cell_of_row _ _ _ _ _ _ Hx.out
  have x4 : w1.cell? ⟨z, 4, none⟩ = some (.int .i64 0) := cell_of_row _ _ _ _ _ _ Hx.out
  have x5 : w1.cell? ⟨z, 5, none⟩ = some (.int .u64 a) := cell_of_row _ _ _ _ _ _ Hx.out
  have x6 : w1.cell? ⟨z, 6, none⟩ = some (.int .u64 b) := cell_of_row _ _ _ _ _ _ Hx.out
  first | go_region_with (go_at_call 18; refine (HM _).out.mono ?_; rintro e w2 ⟨rfl, hk2⟩; have T2 := Lib.hid (Ha.out.drew.below hk2); have d1 : w2.cell? ⟨q, 1, none⟩ = some (.int .i64 0) := T2.out.c1; have d2 : w2.frozen? ⟨q, 1, none⟩ = false := T2.out.fz 1; have Hx2 := Lib.hid ((hk2.block z hz.out).trans Hx.out); have Hk2 := Lib.hid (Hk.out.drew.trans (Kept.of_below hk2 K)); clear hk2) | fail
  all_goals
    have T3 := Lib.hid (T2.out.set1 2)
    have Hx3 := Lib.hid ((Below.heap_setCell w2 ⟨q, 1, none⟩ (.int .i64 2) z hzq.out).trans Hx2.out)
    have Hk3 := Lib.hid (Hk2.out.setCell (p := ⟨q, 1, none⟩) (.inl Kq.out) (.int .i64 2))
    clear d1 d2 Hk2 Hx2 T2 x0 x1 x2 x3 x4 x5 x6 c0 c1 Hk Hx Ha
    generalize w2.setCell ⟨q, 1, none⟩ (.int .i64 2) = w3 at *
    have c0 := T3.out.c0
    have y1 : w3.cell? ⟨z, 1, none⟩ = some (.int .i64 0) := cell_of_row _ _ _ _ _ _ Hx3.out
    have y2 : w3.cell? ⟨z, 2, none⟩ = some (.int .i64 0) := cell_of_row _ _ _ _ _ _ Hx3.out
    go_wp2_with fail
    first | go_region_with (go_at_call 24; refine (drop_none _ _).mono ?_; rintro e w' ⟨rfl, rfl⟩) | fail
  all_goals
    go_wp2_with fail
    first | go_region_with (go_at_call 24; refine (drop_none _ _).mono ?_; rintro e w' ⟨rfl, rfl⟩) | fail
  all_goals
    go_wp2_with fail
    go_ret
    exact ⟨rfl, T3.out.drew.drew, Hk3.out.drew.drew⟩
set_option maxHeartbeats 1000000 in
theorem titem_none (ha : TreN w K q 0) :
    Calls Try.prog 34 #[.pointer (some ⟨q, 0, none⟩), .agg #[.int .i64 0, .int .i64 0]] w fun r w' => r = .returned (.int .i64 0) ∧ TreN w' K q 2 ∧ Kept K w w' := by
  have Ha := Lib.hid ha
  clear ha
  go_enter Try.func34, Try.ntmps34
  go_wp2_with fail
  refine (tnode_none (Ha.out.below ((Below.refl _ _).alloc (Nat.le_refl _) _))).mono ?_
  rintro e w1 ⟨rfl, ha, hk⟩
  go_wp2_with fail
  go_ret
  exact ⟨rfl, ha, ((Kept.refl K w).alloc _).trans hk⟩
set_option maxHeartbeats 1000000 in
theorem ins_no_arena {bt bx bn bi : Nat} {i : Int} (ha : TreN w K q 0) (hb : InsBoxes bt bx bn bi q 0 0 0 i w) (hK : ∀ y, y = bt ∨ y = bx ∨ y = bn ∨ y = bi → K y) :
    Calls Try.prog 33 #[.int .i64 0, .pointer (some ⟨bt, 0, none⟩), .pointer (some ⟨bx, 0, none⟩), .pointer (some ⟨bn, 0, none⟩), .pointer (some ⟨bi, 0, none⟩)] w fun r w' => r = .returned (.int .i64 0) ∧ TreN w' K q 2 ∧ Kept K w w' := by
  have H := Lib.hid (titem_none ha)
  have Hb := Lib.hid hb
  obtain ⟨⟨c0, c1, c2⟩, c3, c4⟩ := hb
  clear ha
  go_enter Try.func33, Try.ntmps33
  go_wp2_with fail
  refine H.out.mono ?_
  rintro e w1 ⟨rfl, h2, h3⟩
  obtain ⟨⟨d0, d1, d2⟩, d3, d4⟩ := Hb.out.kept h3 hK
  go_wp2_with fail
  go_ret
  exact ⟨rfl, h2, h3⟩
set_option maxHeartbeats 4000000 in
theorem change_no_arena {bt bx bn bi : Nat} {i j : Int} (ha : TreN w K q 0) (hb : InsBoxes bt bx bn bi q 0 0 0 i w) (hK : ∀ y, y = bt ∨ y = bx ∨ y = bn ∨ y = bi → K y) :
    Calls Try.prog 32 #[.pointer (some ⟨q, 0, none⟩), .int .i64 0, .int .i64 j, .func (.func 33) #[] #[.pointer (some ⟨bt, 0, none⟩), .pointer (some ⟨bx, 0, none⟩), .pointer (some ⟨bn, 0, none⟩), .pointer (some ⟨bi, 0, none⟩)]] w fun r w' => r = .returned (.int .i64 0) ∧ TreN w' K q 2 ∧ Kept K w w' := by
  have c0 := ha.c0
  have H := Lib.hid (lnode_none 0 w)
  have H1 := fun W hT hB' => Lib.hid (ins_no_arena (w := W) (q := q) (bt := bt) (bx := bx) (bn := bn) (bi := bi) (i := i) hT hB' hK)
  have Ha := Lib.hid ha
  have Hb := Lib.hid hb
  have HK := Lib.hid hK
  clear ha hb hK
  go_enter Try.func32, Try.ntmps32
  go_wp2_with fail
  refine H.out.mono ?_
  clear H
  rintro e w1 ⟨rfl, hk⟩
  go_wp2_with fail
  have hb := hk.alloc hk.size (.cells #[.int .i64 0, .int .i64 0, .int .i64 0, .int .i64 0, .int .i64 0, .int .u64 0, .int .u64 0] 42)
  refine (H1 _ (Ha.out.below hb) (Hb.out.kept (Kept.of_below hb K) HK.out)).out.mono ?_
  rintro e w2 ⟨rfl, h2, h3⟩
  go_wp2_with fail
  go_ret
  exact ⟨rfl, h2, (Kept.of_below hb K).trans h3⟩
set_option maxHeartbeats 1000000 in
theorem told_none {h : Int} (ha : TreN w K q 2) : Calls Try.prog 31 #[.pointer (some ⟨q, 0, none⟩), .int .i64 h] w fun e w' => e = .returned (.tuple #[.int .i64 0, .int .i64 2]) ∧ ∃ m, w' = w.drewN m := by
  have c1 := ha.c1
  clear ha
  go_enter Try.func31, Try.ntmps31
  go_wp2_with fail
  go_quiet (fail)
  go_wp2_with fail
  go_ret2
  exact ⟨rfl, _, rfl⟩
end
set_option maxRecDepth 100000 in
set_option maxHeartbeats 8000000 in
theorem insert_no_arena (w : World) :
    Calls Try.prog 13 #[.pointer none, .int .i64 0, .int .i64 0, .agg #[.int .i64 0, .int .i64 0]] w fun e w' => e = .returned (.tuple #[.int .i64 0, .int .i64 2]) ∧ Below w.heap.size w w' := by
  have HM := fun w => Lib.hid (may_ok (w := w) (a := 0) (b := 0) (i := 0) (m := 0) (by decide) (by decide) (by decide) (by decide))
  go_enter Try.func13, Try.ntmps13
  go_wp2_with fail
  refine (len_none 0 _).mono ?_
  rintro e w1 ⟨rfl, hk1⟩
  have hbi : w1.heap[w.heap.size]? = some (.cells #[.int .i64 0] 3 (0, 0)) := (hk1.block _ (by simp; omega)).trans ((Below.heap_alloc _ _ _ (by simp)).trans (heap_alloc_new _ _))
  have hbx : w1.heap[w.heap.size + 1]? = some (.cells #[.int .i64 0, .int .i64 0] 24 (0, 0)) := (hk1.block _ (by simp)).trans (by have := heap_alloc_new (w.alloc (.cells #[.int .i64 0] 3)) (.cells #[.int .i64 0, .int .i64 0] 24); simpa using this)
  have b1 := Lib.hid ((((Below.refl w.heap.size w).alloc (Nat.le_refl _) _).alloc (by simp) _).trans (hk1.mono (by simp; omega)))
  clear hk1
  have l1 := lt_heap hbi
  have l2 := lt_heap hbx
  have cx0 : w1.cell? ⟨w.heap.size + 1, 0, none⟩ = some (.int .i64 0) := cell_of_row _ _ _ _ _ _ hbx
  have cx1 : w1.cell? ⟨w.heap.size + 1, 1, none⟩ = some (.int .i64 0) := cell_of_row _ _ _ _ _ _ hbx
  have ci : w1.cell? ⟨w.heap.size, 0, none⟩ = some (.int .i64 0) := cell_of_row _ _ _ _ _ _ hbi
  have Hbi := Lib.hid hbi
  have Hbx := Lib.hid hbx
  clear hbi hbx
  go_wp2_with fail
  refine (HM _).out.mono ?_
  clear HM
  rintro e w2 ⟨rfl, hk2⟩
  have l3 : w.heap.size + 1 < w1.heap.size := l2
  have B2 := Lib.hid (b1.out.trans (((Below.refl w1.heap.size w1).alloc (Nat.le_refl _) (.cells #[.int .i64 0] 3)).trans (hk2.mono (by simp)) |>.mono (by omega)))
  have hbn : w2.heap[w1.heap.size]? = some (.cells #[.int .i64 0] 3 (0, 0)) := (hk2.block _ (by simp)).trans (heap_alloc_new _ _)
  have hbi2 := Lib.hid ((hk2.block _ (by simp; omega)).trans ((Below.heap_alloc _ _ _ (by omega)).trans Hbi.out))
  have hbx2 := Lib.hid ((hk2.block _ (by simp; omega)).trans ((Below.heap_alloc _ _ _ (by omega)).trans Hbx.out))
  have l4 := lt_heap hbn
  have hbn2 := Lib.hid hbn
  clear hk2 cx0 cx1 ci hbn
  go_wp2_with fail
  have hq : ((w2.alloc (.cells #[.pointer none, .int .i64 0] 65)).alloc (.cells #[.pointer (some ⟨w2.heap.size, 0, none⟩)] 63)).heap[w2.heap.size]? = some (.cells #[.pointer none, .int .i64 0] 65 (0, 0)) := (Below.heap_alloc _ _ _ (by simp)).trans (heap_alloc_new _ _)
  have ht : ((w2.alloc (.cells #[.pointer none, .int .i64 0] 65)).alloc (.cells #[.pointer (some ⟨w2.heap.size, 0, none⟩)] 63)).heap[w2.heap.size + 1]? = some (.cells #[.pointer (some ⟨w2.heap.size, 0, none⟩)] 63 (0, 0)) := by
    have := heap_alloc_new (w2.alloc (.cells #[.pointer none, .int .i64 0] 65)) (.cells #[.pointer (some ⟨w2.heap.size, 0, none⟩)] 63)
    simpa using this
  have hB3 := ((Below.refl w2.heap.size w2).alloc (Nat.le_refl _) (.cells #[.pointer none, .int .i64 0] 65)).alloc (by simp) (.cells #[.pointer (some ⟨w2.heap.size, 0, none⟩)] 63)
  generalize ((w2.alloc (.cells #[.pointer none, .int .i64 0] 65)).alloc (.cells #[.pointer (some ⟨w2.heap.size, 0, none⟩)] 63)) = w3 at *
  have B3 := Lib.hid (B2.out.trans (hB3.mono B2.out.size))
  have hbi3 := (hB3.block _ (lt_heap hbi2.out)).trans hbi2.out
  have hbx3 := (hB3.block _ (lt_heap hbx2.out)).trans hbx2.out
  have hbn3 := (hB3.block _ (lt_heap hbn2.out)).trans hbn2.out
  have l5 := lt_heap ht
  have l6 : w.heap.size < w2.heap.size := by omega
  obtain ⟨K2, hK2⟩ : ∃ K2 : Nat → Prop, K2 = fun b => b < w.heap.size ∨ b = w2.heap.size + 1 ∨ b = w.heap.size + 1 ∨ b = w1.heap.size ∨ b = w.heap.size := ⟨_, rfl⟩
  have hT : TreN w3 K2 w2.heap.size 0 := ⟨hq, fun e => by rw [hK2] at e; omega⟩
  have HT := Lib.hid hT
  have hbo : InsBoxes (w2.heap.size + 1) (w.heap.size + 1) w1.heap.size w.heap.size w2.heap.size 0 0 0 0 w3 :=
    ⟨⟨cell_of_row _ _ _ _ _ _ ht, cell_of_row _ _ _ _ _ _ hbx3, cell_of_row _ _ _ _ _ _ hbx3⟩, cell_of_row _ _ _ _ _ _ hbn3, cell_of_row _ _ _ _ _ _ hbi3⟩
  have HKK := Lib.hid (show ∀ b, b < w.heap.size → K2 b from fun b e => by rw [hK2]; exact .inl e)
  have HK0 := Lib.hid (show ∀ b, (b = w2.heap.size + 1 ∨ b = w.heap.size + 1 ∨ b = w1.heap.size ∨ b = w.heap.size) → K2 b from fun b e => by rw [hK2]; exact .inr e)
  have Hbo := Lib.hid hbo
  obtain ⟨⟨ct, _, _⟩, cn, ci⟩ := hbo
  clear hq ht hB3 hbi3 hbx3 hbn3 hbi2 hbx2 hbn2 Hbi Hbx hK2 hT B2 b1
  generalize w2.heap.size + 1 = bt at *
  generalize w.heap.size + 1 = bx at *
  generalize w1.heap.size = bn at *
  generalize w2.heap.size = q at *
  have hw1 : IntKind.i64.wrap ((0 : Int) - 1) = -1 := by decide
  have CH := Lib.hid (change_no_arena (bt := bt) (bx := bx) (bn := bn) (bi := w.heap.size) (i := 0) (j := 0) HT.out.drew (Hbo.out.kept (Kept.refl K2 w3).drew HK0.out) HK0.out)
  go_region_held3 (fun w' => w'.cell? ⟨bt, 0, none⟩ = some (.pointer (some ⟨q, 0, none⟩)) ∧ w'.cell? ⟨w.heap.size, 0, none⟩ = some (.int .i64 0) ∧ w'.cell? ⟨bn, 0, none⟩ = some (.int .i64 0)) (go_keep) (first | (go_at_call 32; refine CH.out.mono ?_; rintro e w4 ⟨rfl, ha4, hk4⟩; obtain ⟨⟨d0, _, _⟩, dn, di⟩ := (Hbo.out.kept (Kept.refl K2 w3).drew HK0.out).kept hk4 HK0.out; have T4 := Lib.hid ha4; have Hk4 := Lib.hid hk4; clear ha4 hk4) | (go_at_call 31; refine (told_none T4.out).mono ?_; rintro e w' ⟨rfl, m, rfl⟩))
  all_goals
    go_wp2_with fail
    go_ret2
    exact ⟨rfl, B3.out.drew.trans ((Hk4.out.mono (K' := fun b => b < w.heap.size) fun b _ hb => HKK.out b hb).below_of B3.out.size) |>.trans ⟨rfl, rfl, rfl, Nat.le_refl _, fun _ _ => rfl⟩⟩
end Go.Proofs.Ytlnnljkifdmmlaa
