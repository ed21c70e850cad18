/- What package list's small functions answer: the node of a list, how many items there are, how high a list is. -/
import Derived.Test.YtcdmebjggdhhdaaA7
import Derived.Test.YtcdmebjggdhhdaaTree
namespace Go.Proofs.Ytcdmebjggdhhdaa
open Go.RowKit

section
variable {K : Nat → Prop} {p : Nat} {s : Ar} {w : World}
theorem lnode_ars {z : Nat} (h : Ars w (fun b => K b ∨ b = z) p s) (a b c d e f g : Value) : Ars (((((((w.setCell ⟨z, 0, none⟩ a).setCell ⟨z, 1, none⟩ b).setCell ⟨z, 2, none⟩ c).setCell ⟨z, 3, none⟩ d).setCell ⟨z, 4, none⟩ e).setCell ⟨z, 5, none⟩ f).setCell ⟨z, 6, none⟩ g).drew K p s :=
  ((((((((h.setCell (.inr rfl) _).setCell (.inr rfl) _).setCell (.inr rfl) _).setCell (.inr rfl) _).setCell (.inr rfl) _).setCell (.inr rfl) _).setCell (.inr rfl) _).drew).more fun _ h => .inl h
theorem lnode_below {z : Nat} {w' : World} (h : Below z w w') (a b c d e f g : Value) : Below z w (((((((w'.setCell ⟨z, 0, none⟩ a).setCell ⟨z, 1, none⟩ b).setCell ⟨z, 2, none⟩ c).setCell ⟨z, 3, none⟩ d).setCell ⟨z, 4, none⟩ e).setCell ⟨z, 5, none⟩ f).setCell ⟨z, 6, none⟩ g).drew :=
  (((((((h.setCell (Nat.le_refl _) _).setCell (Nat.le_refl _) _).setCell (Nat.le_refl _) _).setCell (Nat.le_refl _) _).setCell (Nat.le_refl _) _).setCell (Nat.le_refl _) _).setCell (Nat.le_refl _) _).drew
set_option maxHeartbeats 8000000 in
theorem lnode_is {x : Nd} {g b : Bool} {c : Int} (i : Int) (hr : s.get i = (x, g)) (hc : s.count i = c) (hb : g = b) (hx : g = true → 0 < c ∧ (x.tag = 4 ∨ x.tag = 5)) (ha : Ars w K p s) (hf : s.Fit) :
    Calls Try.prog 30 #[.pointer (some ⟨p, 0, none⟩), .int .i64 i] w fun r w' => r = .returned (.tuple #[.agg #[.int .i64 x.tag, .int .i64 x.k0, .int .i64 x.k1, .int .i64 x.k2, .int .i64 x.k3, .int .u64 x.A, .int .u64 x.B], .bool b]) ∧ Ars w' K p s ∧ Below w.heap.size w w' := by
  have Hc := Lib.hid hc
  have Hf := Lib.hid hf
  have H := fun o => Lib.hid (get_is i hr (ha.allocK o) hf)
  have hK : ∀ b, K b → b < w.heap.size := ha.lt
  clear hr hc hf ha
  go_enter Try.func30, Try.ntmps30
  go_wp2_with fail
  refine (H _).out.mono ?_
  clear H
  rintro e w1 ⟨rfl, ha, hk⟩
  go_wp2_with fail
  have hr : w1.heap[w.heap.size]? = some (.cells #[.int .i64 0, .int .i64 0, .int .i64 0, .int .i64 0, .int .i64 0, .int .u64 0, .int .u64 0] 64 (0, 0)) := by
    rw [hk.block _ (by simp)]; exact heap_alloc_new _ _
  have hq := lt_heap hr
  have Hk := Lib.hid (((Below.refl _ w).alloc (Nat.le_refl _) _).trans ((hk.mono (by simp)).alloc (by omega) (.cells #[.int .i64 x.tag, .int .i64 x.k0, .int .i64 x.k1, .int .i64 x.k2, .int .i64 x.k3, .int .u64 x.A, .int .u64 x.B] 64)))
  replace hr := (Below.heap_alloc w1 (.cells #[.int .i64 x.tag, .int .i64 x.k0, .int .i64 x.k1, .int .i64 x.k2, .int .i64 x.k3, .int .u64 x.A, .int .u64 x.B] 64) _ hq).trans hr
  have hx := heap_alloc_new w1 (.cells #[.int .i64 x.tag, .int .i64 x.k0, .int .i64 x.k1, .int .i64 x.k2, .int .i64 x.k3, .int .u64 x.A, .int .u64 x.B] 64)
  replace ha := ha.alloc (.cells #[.int .i64 x.tag, .int .i64 x.k0, .int .i64 x.k1, .int .i64 x.k2, .int .i64 x.k3, .int .u64 x.A, .int .u64 x.B] 64)
  clear hk
  generalize w1.alloc (.cells #[.int .i64 x.tag, .int .i64 x.k0, .int .i64 x.k1, .int .i64 x.k2, .int .i64 x.k3, .int .u64 x.A, .int .u64 x.B] 64) = w2 at *
  generalize w1.heap.size = q at *
  have x0 : w2.cell? ⟨q, 0, none⟩ = some (.int .i64 x.tag) := cell_of_row _ _ _ _ _ _ hx
  have x1 : w2.cell? ⟨q, 1, none⟩ = some (.int .i64 x.k0) := cell_of_row _ _ _ _ _ _ hx
  have x2 : w2.cell? ⟨q, 2, none⟩ = some (.int .i64 x.k1) := cell_of_row _ _ _ _ _ _ hx
  have x3 : w2.cell? ⟨q, 3, none⟩ = some (.int .i64 x.k2) := cell_of_row _ _ _ _ _ _ hx
  have x4 : w2.cell? ⟨q, 4, none⟩ = some (.int .i64 x.k3) := cell_of_row _ _ _ _ _ _ hx
  have x5 : w2.cell? ⟨q, 5, none⟩ = some (.int .u64 x.A) := cell_of_row _ _ _ _ _ _ hx
  have x6 : w2.cell? ⟨q, 6, none⟩ = some (.int .u64 x.B) := cell_of_row _ _ _ _ _ _ hx
  have r0 : w2.cell? ⟨w.heap.size, 0, none⟩ = some (.int .i64 0) := cell_of_row _ _ _ _ _ _ hr
  have r1 : w2.cell? ⟨w.heap.size, 1, none⟩ = some (.int .i64 0) := cell_of_row _ _ _ _ _ _ hr
  have r2 : w2.cell? ⟨w.heap.size, 2, none⟩ = some (.int .i64 0) := cell_of_row _ _ _ _ _ _ hr
  have r3 : w2.cell? ⟨w.heap.size, 3, none⟩ = some (.int .i64 0) := cell_of_row _ _ _ _ _ _ hr
  have r4 : w2.cell? ⟨w.heap.size, 4, none⟩ = some (.int .i64 0) := cell_of_row _ _ _ _ _ _ hr
  have r5 : w2.cell? ⟨w.heap.size, 5, none⟩ = some (.int .u64 0) := cell_of_row _ _ _ _ _ _ hr
  have r6 : w2.cell? ⟨w.heap.size, 6, none⟩ = some (.int .u64 0) := cell_of_row _ _ _ _ _ _ hr
  have rf : ∀ j, w2.frozen? ⟨w.heap.size, j, none⟩ = false := fun j => frozen_of_row _ _ _ _ _ hr
  have Ha := Lib.hid ha
  clear ha hx hr
  generalize hz : w.heap.size = z at *
  have H1 := Lib.hid (count_is i Hc.out Ha.out Hf.out)
  have H2 := Lib.hid (count_is i Hc.out Ha.out.drew Hf.out)
  have hend : Ars w2 (fun b => K b ∨ b = z) p s := Ha.out
  subst hb
  cases g
  · clear hx
    go_region
    all_goals go_wp2_with fail
    all_goals exact bodyPost_ret (v := .tuple #[.agg #[.int .i64 x.tag, .int .i64 x.k0, .int .i64 x.k1, .int .i64 x.k2, .int .i64 x.k3, .int .u64 x.A, .int .u64 x.B], .bool false]) (by simp [results, Try.results30, go_sem, r0, r1, r2, r3, r4, r5, r6]) rfl ⟨rfl, lnode_ars Ha.out .., by rw [hz]; exact lnode_below Hk.out ..⟩
  · obtain ⟨hc, t⟩ := hx rfl
    clear hx
    have T := Lib.hid t
    rcases t with t | t
    · rw [t] at x0
      replace T := Lib.hid t
      clear t
      first | go_region_with (go_at_call 39; first | refine H1.out.mono ?_ | refine H2.out.mono ?_; rintro e w' ⟨rfl, rfl⟩) | fail
      all_goals go_wp2_with fail
      all_goals exact bodyPost_ret (v := .tuple #[.agg #[.int .i64 4, .int .i64 x.k0, .int .i64 x.k1, .int .i64 x.k2, .int .i64 x.k3, .int .u64 x.A, .int .u64 x.B], .bool true]) (by simp [results, Try.results30, go_sem, r0, r1, r2, r3, r4, r5, r6]) rfl ⟨by rw [T.out], lnode_ars Ha.out .., by rw [hz]; exact lnode_below Hk.out ..⟩
    · rw [t] at x0
      replace T := Lib.hid t
      clear t
      first | go_region_with (go_at_call 39; first | refine H1.out.mono ?_ | refine H2.out.mono ?_; rintro e w' ⟨rfl, rfl⟩) | fail
      all_goals go_wp2_with fail
      all_goals exact bodyPost_ret (v := .tuple #[.agg #[.int .i64 5, .int .i64 x.k0, .int .i64 x.k1, .int .i64 x.k2, .int .i64 x.k3, .int .u64 x.A, .int .u64 x.B], .bool true]) (by simp [results, Try.results30, go_sem, r0, r1, r2, r3, r4, r5, r6]) rfl ⟨by rw [T.out], lnode_ars Ha.out .., by rw [hz]; exact lnode_below Hk.out ..⟩
end
end Go.Proofs.Ytcdmebjggdhhdaa
