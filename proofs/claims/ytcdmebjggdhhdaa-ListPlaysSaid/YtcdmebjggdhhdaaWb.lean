/- The bits of a number. Plain. -/
import Derived.Test.YtcdmebjggdhhdaaMem
namespace Go.Proofs.Ytcdmebjggdhhdaa
open Go.RowKit
/-- The bits of a number. -/
def bl (n : Nat) : Nat := if h : n = 0 then 0 else 1 + bl (n / 2)
termination_by n
decreasing_by omega
theorem bl_is (n : Nat) : n < 2 ^ bl n ∧ ∀ k, k < bl n → 2 ^ k ≤ n := by
  induction n using Nat.strongRecOn with
  | ind n ih =>
    unfold bl
    by_cases h : n = 0
    · rw [dif_pos h]
      exact ⟨by omega, fun k hk => absurd hk (Nat.not_lt_zero _)⟩
    · rw [dif_neg h]
      obtain ⟨a, b⟩ := ih (n / 2) (by omega)
      refine ⟨by rw [Nat.pow_add]; omega, fun k hk => ?_⟩
      cases k with
      | zero => omega
      | succ k =>
        have := b k (by omega)
        rw [Nat.pow_succ]
        omega
theorem bl_mono {m n : Nat} (h : m ≤ n) : bl m ≤ bl n := by
  by_cases c : bl m ≤ bl n
  · exact c
  · have := (bl_is m).2 (bl n) (by omega)
    have := (bl_is n).1
    omega
theorem bl_ge {k n : Nat} (h : 2 ^ k ≤ n) : k + 1 ≤ bl n := by
  by_cases c : k + 1 ≤ bl n
  · exact c
  · have h1 := (bl_is n).1
    have := Nat.pow_le_pow_right (n := 2) (by omega) (show bl n ≤ k by omega)
    omega
theorem bl_small {m : Nat} (h : m ≤ 1000) : bl m ≤ 10 := by
  have h1 : bl m ≤ 10 ∨ 10 < bl m := by omega
  rcases h1 with h1 | h1
  · exact h1
  · have h2 := (bl_is m).2 10 h1
    rw [show (2 : Nat) ^ 10 = 1024 from rfl] at h2
    omega
theorem pow_val {k : Nat} (h : k ≤ 10) : ∃ P : Nat, P = 2 ^ k ∧ wrap64 (2 ^ min k 64) = (P : Int) ∧ wrap64 (2 ^ k) = (P : Int) := by
  have h1 : (2 : Nat) ^ k ≤ 2 ^ 10 := Nat.pow_le_pow_right (by omega) h
  rw [show (2 : Nat) ^ 10 = 1024 from rfl] at h1
  have h2 : ((2 ^ k : Nat) : Int) = (2 : Int) ^ k := by simp
  refine ⟨2 ^ k, rfl, ?_⟩
  rw [show min k 64 = k by omega, ← h2]
  generalize 2 ^ k = P at *
  have := IntWalk.wrap64_in (P : Int) (by omega)
  exact ⟨this, this⟩
end Go.Proofs.Ytcdmebjggdhhdaa
