/- What package bits' small functions answer: the node of a row, its bits, how many there are, how many are 1. -/
import Derived.Test.YtdipgcbppggdhaaGpA
import Derived.Test.YtdipgcbppggdhaaGpL
import Derived.Test.YtdipgcbppggdhaaGpB
namespace Go.Proofs.Ytdipgcbppggdhaa
set_option maxRecDepth 100000
open Go.RowKit

section
variable {K : Nat → Prop} {p : Nat} {s : Ar} {w : World}
theorem brow_ars {z : Nat} (h : Ars w (fun b => K b ∨ b = z) p s) (a b c d e f g : Value) : Ars (((((((w.setCell ⟨z, 0, none⟩ a).setCell ⟨z, 1, none⟩ b).setCell ⟨z, 2, none⟩ c).setCell ⟨z, 3, none⟩ d).setCell ⟨z, 4, none⟩ e).setCell ⟨z, 5, none⟩ f).setCell ⟨z, 6, none⟩ g).drew K p s :=
  ((((((((h.setCell (.inr rfl) _).setCell (.inr rfl) _).setCell (.inr rfl) _).setCell (.inr rfl) _).setCell (.inr rfl) _).setCell (.inr rfl) _).setCell (.inr rfl) _).drew).more fun _ h => .inl h
theorem brow_below {z : Nat} {w' : World} (h : Below z w w') (a b c d e f g : Value) : Below z w (((((((w'.setCell ⟨z, 0, none⟩ a).setCell ⟨z, 1, none⟩ b).setCell ⟨z, 2, none⟩ c).setCell ⟨z, 3, none⟩ d).setCell ⟨z, 4, none⟩ e).setCell ⟨z, 5, none⟩ f).setCell ⟨z, 6, none⟩ g).drew :=
  (((((((h.setCell (Nat.le_refl _) _).setCell (Nat.le_refl _) _).setCell (Nat.le_refl _) _).setCell (Nat.le_refl _) _).setCell (Nat.le_refl _) _).setCell (Nat.le_refl _) _).setCell (Nat.le_refl _) _).drew
set_option maxHeartbeats 8000000 in
theorem brow_is {x : Nd} {g : Bool} {c : Int} (i : Int) (hr : s.get i = (x, g)) (hc : s.count i = c) (hp : g = true → 0 < c) (ha : Ars w K p s) (hf : s.Fit) :
    Calls Try.prog 46 #[.pointer (some ⟨p, 0, none⟩), .int .i64 i] w fun r w' => r = .returned (.tuple #[.agg #[.int .i64 x.tag, .int .i64 x.k0, .int .i64 x.k1, .int .i64 x.k2, .int .i64 x.k3, .int .u64 x.A, .int .u64 x.B], .bool (g && decide (0 < c) && (decide (x.tag = 1) || decide (x.tag = 2)))]) ∧ Ars w' K p s ∧ Below w.heap.size w w' := by
  have Hc := Lib.hid hc
  have Hf := Lib.hid hf
  have H := fun o => Lib.hid (get_is i hr (ha.allocK o) hf)
  have hK : ∀ b, K b → b < w.heap.size := ha.lt
  clear hr hc hf ha
  go_enter Try.func46, Try.ntmps46
  go_wp2_with fail
  refine (H _).out.mono ?_
  clear H
  rintro e w1 ⟨rfl, ha, hk⟩
  go_wp2_with fail
  have hr : w1.heap[w.heap.size]? = some (.cells #[.int .i64 0, .int .i64 0, .int .i64 0, .int .i64 0, .int .i64 0, .int .u64 0, .int .u64 0] 47 (0, 0)) := by
    rw [hk.block _ (by simp)]; exact heap_alloc_new _ _
  have hq := lt_heap hr
  have Hk := Lib.hid (((Below.refl _ w).alloc (Nat.le_refl _) _).trans ((hk.mono (by simp)).alloc (by omega) (.cells #[.int .i64 x.tag, .int .i64 x.k0, .int .i64 x.k1, .int .i64 x.k2, .int .i64 x.k3, .int .u64 x.A, .int .u64 x.B] 47)))
  replace hr := (Below.heap_alloc w1 (.cells #[.int .i64 x.tag, .int .i64 x.k0, .int .i64 x.k1, .int .i64 x.k2, .int .i64 x.k3, .int .u64 x.A, .int .u64 x.B] 47) _ hq).trans hr
  have hx := heap_alloc_new w1 (.cells #[.int .i64 x.tag, .int .i64 x.k0, .int .i64 x.k1, .int .i64 x.k2, .int .i64 x.k3, .int .u64 x.A, .int .u64 x.B] 47)
  replace ha := ha.alloc (.cells #[.int .i64 x.tag, .int .i64 x.k0, .int .i64 x.k1, .int .i64 x.k2, .int .i64 x.k3, .int .u64 x.A, .int .u64 x.B] 47)
  clear hk
  generalize w1.alloc (.cells #[.int .i64 x.tag, .int .i64 x.k0, .int .i64 x.k1, .int .i64 x.k2, .int .i64 x.k3, .int .u64 x.A, .int .u64 x.B] 47) = w2 at *
  generalize w1.heap.size = q at *
  have x0 : w2.cell? ⟨q, 0, none⟩ = some (.int .i64 x.tag) := cell_of_row _ _ _ _ _ _ hx
  have x1 : w2.cell? ⟨q, 1, none⟩ = some (.int .i64 x.k0) := cell_of_row _ _ _ _ _ _ hx
  have x2 : w2.cell? ⟨q, 2, none⟩ = some (.int .i64 x.k1) := cell_of_row _ _ _ _ _ _ hx
  have x3 : w2.cell? ⟨q, 3, none⟩ = some (.int .i64 x.k2) := cell_of_row _ _ _ _ _ _ hx
  have x4 : w2.cell? ⟨q, 4, none⟩ = some (.int .i64 x.k3) := cell_of_row _ _ _ _ _ _ hx
  have x5 : w2.cell? ⟨q, 5, none⟩ = some (.int .u64 x.A) := cell_of_row _ _ _ _ _ _ hx
  have x6 : w2.cell? ⟨q, 6, none⟩ = some (.int .u64 x.B) := cell_of_row _ _ _ _ _ _ hx
  have r0 : w2.cell? ⟨w.heap.size, 0, none⟩ = some (.int .i64 0) := cell_of_row _ _ _ _ _ _ hr
  have r1 : w2.cell? ⟨w.heap.size, 1, none⟩ = some (.int .i64 0) := cell_of_row _ _ _ _ _ _ hr
  have r2 : w2.cell? ⟨w.heap.size, 2, none⟩ = some (.int .i64 0) := cell_of_row _ _ _ _ _ _ hr
  have r3 : w2.cell? ⟨w.heap.size, 3, none⟩ = some (.int .i64 0) := cell_of_row _ _ _ _ _ _ hr
  have r4 : w2.cell? ⟨w.heap.size, 4, none⟩ = some (.int .i64 0) := cell_of_row _ _ _ _ _ _ hr
  have r5 : w2.cell? ⟨w.heap.size, 5, none⟩ = some (.int .u64 0) := cell_of_row _ _ _ _ _ _ hr
  have r6 : w2.cell? ⟨w.heap.size, 6, none⟩ = some (.int .u64 0) := cell_of_row _ _ _ _ _ _ hr
  have rf : ∀ j, w2.frozen? ⟨w.heap.size, j, none⟩ = false := fun j => frozen_of_row _ _ _ _ _ hr
  have Ha := Lib.hid ha
  clear ha hx hr
  generalize hz : w.heap.size = z at *
  have H1 := Lib.hid (count_is i Hc.out Ha.out Hf.out)
  have H2 := Lib.hid (count_is i Hc.out Ha.out.drew Hf.out)
  have hend : Ars w2 (fun b => K b ∨ b = z) p s := Ha.out
  cases g
  · go_region
    all_goals go_wp2_with fail
    all_goals exact bodyPost_ret (v := .tuple #[.agg #[.int .i64 x.tag, .int .i64 x.k0, .int .i64 x.k1, .int .i64 x.k2, .int .i64 x.k3, .int .u64 x.A, .int .u64 x.B], .bool false]) (by simp [results, Try.results46, go_sem, r0, r1, r2, r3, r4, r5, r6]) rfl ⟨rfl, brow_ars Ha.out .., by rw [hz]; exact brow_below Hk.out ..⟩
  · have hc := hp rfl
    clear hp
    have hd : decide (0 < c) = true := decide_eq_true hc
    rcases Classical.em (x.tag = 1) with t | t
    · rw [t] at x0
      have T := Lib.hid t
      clear t
      first | go_region_with (go_at_call 37; first | refine H1.out.mono ?_ | refine H2.out.mono ?_; rintro e w' ⟨rfl, rfl⟩) | fail
      all_goals go_wp2_with fail
      all_goals exact bodyPost_ret (v := .tuple #[.agg #[.int .i64 1, .int .i64 x.k0, .int .i64 x.k1, .int .i64 x.k2, .int .i64 x.k3, .int .u64 x.A, .int .u64 x.B], .bool true]) (by simp [results, Try.results46, go_sem, r0, r1, r2, r3, r4, r5, r6]) rfl ⟨by rw [T.out, hd]; rfl, brow_ars Ha.out .., by rw [hz]; exact brow_below Hk.out ..⟩
    · rcases Classical.em (x.tag = 2) with t' | t'
      · rw [t'] at x0
        have T := Lib.hid t'
        clear t' t
        first | go_region_with (go_at_call 37; first | refine H1.out.mono ?_ | refine H2.out.mono ?_; rintro e w' ⟨rfl, rfl⟩) | fail
        all_goals go_wp2_with fail
        all_goals exact bodyPost_ret (v := .tuple #[.agg #[.int .i64 2, .int .i64 x.k0, .int .i64 x.k1, .int .i64 x.k2, .int .i64 x.k3, .int .u64 x.A, .int .u64 x.B], .bool true]) (by simp [results, Try.results46, go_sem, r0, r1, r2, r3, r4, r5, r6]) rfl ⟨by rw [T.out, hd]; rfl, brow_ars Ha.out .., by rw [hz]; exact brow_below Hk.out ..⟩
      · have T := Lib.hid t
        have T' := Lib.hid t'
        have n1 : (x.tag == 1) = false := by simpa using t
        have n2 : (x.tag == 2) = false := by simpa using t'
        clear t t'
        first | go_region_with (go_at_call 37; first | refine H1.out.mono ?_ | refine H2.out.mono ?_; rintro e w' ⟨rfl, rfl⟩) | fail
        all_goals go_wp2_with fail
        all_goals exact bodyPost_ret (v := .tuple #[.agg #[.int .i64 x.tag, .int .i64 x.k0, .int .i64 x.k1, .int .i64 x.k2, .int .i64 x.k3, .int .u64 x.A, .int .u64 x.B], .bool false]) (by simp [results, Try.results46, go_sem, r0, r1, r2, r3, r4, r5, r6]) rfl ⟨by rw [hd, decide_eq_false T.out, decide_eq_false T'.out]; rfl, brow_ars Ha.out .., by rw [hz]; exact brow_below Hk.out ..⟩
end
section
variable {K : Nat → Prop} {p : Nat} {s : Ar} {w : World}
/-- What package bits sees at a handle: the node, and whether it is a row's. -/
theorem row_none {h : Int} (hv : Vw s h .none) (ha : Ars w K p s) (hf : s.Fit) :
    ∃ x : Nd, Calls Try.prog 46 #[.pointer (some ⟨p, 0, none⟩), .int .i64 h] w fun r w' => r = .returned (.tuple #[.agg #[.int .i64 x.tag, .int .i64 x.k0, .int .i64 x.k1, .int .i64 x.k2, .int .i64 x.k3, .int .u64 x.A, .int .u64 x.B], .bool false]) ∧ Ars w' K p s ∧ Below w.heap.size w w' := by
  rcases hg : s.get h with ⟨x, g⟩
  refine ⟨x, ?_⟩
  rcases hv with e | ⟨e1, e2, e3⟩
  · rw [hg] at e
    have e : g = false := e
    subst e
    exact brow_is h hg rfl (fun a => by cases a) ha hf
  · rw [hg] at e2 e3
    have := brow_is h hg rfl (fun _ => e1) ha hf
    have e4 : (g && decide (0 < s.count h) && (decide (x.tag = 1) || decide (x.tag = 2))) = false := by
      rw [decide_eq_false e2, decide_eq_false e3]; simp
    rw [e4] at this
    exact this
theorem row_leaf {h : Int} {l : List Bool} (hv : Vw s h (.leaf l)) (ha : Ars w K p s) (hf : s.Fit) :
    Calls Try.prog 46 #[.pointer (some ⟨p, 0, none⟩), .int .i64 h] w fun r w' => r = .returned (.tuple #[.agg #[.int .i64 1, .int .i64 0, .int .i64 0, .int .i64 0, .int .i64 0, .int .u64 (bN l), .int .u64 l.length], .bool true]) ∧ Ars w' K p s ∧ Below w.heap.size w w' := by
  obtain ⟨e1, e2, _⟩ := hv
  have := brow_is h e1 rfl (fun _ => e2) ha hf
  rw [show (true && decide (0 < s.count h) && (decide ((1 : Int) = 1) || decide ((1 : Int) = 2))) = true by rw [decide_eq_true e2]; rfl] at this
  exact this
theorem row_fork {h k0 k1 : Int} {m o : Nat} (hv : Vw s h (.fork k0 k1 m o)) (ha : Ars w K p s) (hf : s.Fit) :
    Calls Try.prog 46 #[.pointer (some ⟨p, 0, none⟩), .int .i64 h] w fun r w' => r = .returned (.tuple #[.agg #[.int .i64 2, .int .i64 k0, .int .i64 k1, .int .i64 0, .int .i64 0, .int .u64 m, .int .u64 o], .bool true]) ∧ Ars w' K p s ∧ Below w.heap.size w w' := by
  obtain ⟨e1, e2, _⟩ := hv
  have := brow_is h e1 rfl (fun _ => e2) ha hf
  rw [show (true && decide (0 < s.count h) && (decide ((2 : Int) = 1) || decide ((2 : Int) = 2))) = true by rw [decide_eq_true e2]; rfl] at this
  exact this
end
end Go.Proofs.Ytdipgcbppggdhaa
