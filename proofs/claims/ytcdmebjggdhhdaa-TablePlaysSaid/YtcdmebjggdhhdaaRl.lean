/- How many nodes are reached: Reach, asked for its length alone. -/
import Derived.Test.YtcdmebjggdhhdaaRe
namespace Go.Proofs.Ytcdmebjggdhhdaa
open Go.RowKit
theorem ints_one (W : World) (h : Int) : Ints (W.alloc (.cells #[.int .i64 h] 3)) (.slice (some ⟨W.heap.size, 0, none⟩) 1 1) [h] :=
  .inr ⟨_, 0, _, rfl, by simp, Nat.le_refl _, fun j hj => by
    have hj : j < 1 := hj
    obtain rfl : j = 0 := by omega
    exact cell_new rfl rfl⟩
theorem ints_two (W : World) (g h : Int) : Ints (W.alloc (.cells #[.int .i64 g, .int .i64 h] 3)) (.slice (some ⟨W.heap.size, 0, none⟩) 2 2) [g, h] :=
  .inr ⟨_, 0, _, rfl, by simp, Nat.le_refl _, fun j hj => by
    have hj : j < 2 := hj
    have : j = 0 ∨ j = 1 := by omega
    rcases this with rfl | rfl <;> exact cell_new rfl rfl⟩
section
variable {w : World} {K : Nat → Prop} {p : Nat} {s : Ar} {R : List Int} {v : Value}
theorem reach_len {n : Nat} (ha : Ars w K p s) (hf : s.Fit) (hv : Ints w v R) (hl : R.length ≤ 100) (h : ∀ zs, Asc zs → (∀ x, x ∈ zs ↔ Rch s R x) → zs.length = n) :
    Calls Try.prog 16 #[.pointer (some ⟨p, 0, none⟩), v] w fun e w' => (∃ a c, e = .returned (.slice a n c)) ∧ Below w.heap.size w w' := by
  refine (reach_is ha hf hv (by omega)).mono ?_
  rintro e w' ⟨v', ys, Ko, rfl, hL, _, hasc, hm, hb⟩
  obtain ⟨a, c, rfl⟩ := hL.slice
  exact ⟨⟨a, c, by rw [h ys hasc hm]⟩, hb⟩
theorem reach_most {n : Nat} (ha : Ars w K p s) (hf : s.Fit) (hv : Ints w v R) (hl : R.length ≤ 100) (h : ∀ zs, Asc zs → (∀ x, x ∈ zs ↔ Rch s R x) → zs.length ≤ n) :
    Calls Try.prog 16 #[.pointer (some ⟨p, 0, none⟩), v] w fun e w' => (∃ a c m, m ≤ n ∧ e = .returned (.slice a m c)) ∧ Below w.heap.size w w' := by
  refine (reach_is ha hf hv (by omega)).mono ?_
  rintro e w' ⟨v', ys, Ko, rfl, hL, _, hasc, hm, hb⟩
  obtain ⟨a, c, rfl⟩ := hL.slice
  exact ⟨⟨a, c, _, h ys hasc hm, rfl⟩, hb⟩
end
end Go.Proofs.Ytcdmebjggdhhdaa
