/- An argument that is a list of numbers. -/
import Derived.Test.YtcdmebjggdhhdaaLaw
namespace Go.Proofs.Ytcdmebjggdhhdaa
open Go.ChangeShapes Go.WideShapes Go.ChangeAt Go.RowKit

/-- The value reads as the numbers xs. -/
structure IntsArg (w : World) (v : Value) (xs : List Int) : Prop where
  val : ∃ a c, v = .slice a xs.length c
  cell : ∀ i, i < xs.length → ∃ b off c, v = .slice (some ⟨b, off, none⟩) xs.length c ∧ b < w.heap.size ∧ xs.length ≤ c ∧ ∀ j, j < xs.length → w.cell? ⟨b, off + j, none⟩ = some (.int .i64 (xs.getD j 0))
  wf : ∀ x, x ∈ xs → (Lit.int .i64 x).wf = true
  len : xs.length ≤ maxLen

set_option maxRecDepth 100000 in
theorem ints_arg {H : Type} {enc : TypeId × Value → H} {W : World} {v : Value} {d : DataW H} {ps : List MemPlace} {r : Reach} {b0 : Nat} (hv : Value.okWide Try.prog W r b0 35 v)
    (h : DataW.Trod enc Try.prog W 0 (fun _ => true) true 35 v d ps) : ∃ xs, IntsArg W v xs := by
  obtain ⟨a0, len, cap, rfl⟩ := okWide_slice Try.underlying35 hv
  obtain ⟨fuel, hf⟩ := h
  rcases open_ints Try.underlying35 Try.underlying3 (by kernel_rfl) hf with ⟨hcs, _⟩ | ⟨a, len', cap', zs, hcs, _, hl, hm, hz, _, hcell, hwz⟩
  · simp [Value.cells] at hcs
    obtain ⟨rfl, rfl, rfl⟩ := hcs
    exact ⟨[], ⟨_, _, rfl⟩, fun i hi => absurd hi (Nat.not_lt_zero _), fun x hx => (by cases hx), Nat.zero_le _⟩
  · simp [Value.cells] at hcs
    obtain ⟨rfl, rfl, rfl⟩ := hcs
    simp only [if_true] at hz
    have hlen : (zs.take len).length = len := by rw [List.length_take]; omega
    refine ⟨zs.take len, ⟨some a, cap, by rw [hlen]⟩, fun i hi => ?_, fun x hx => hwz x (List.mem_of_mem_take hx), by rw [hlen]; omega⟩
    rw [hlen] at hi ⊢
    have h0 := hcell 0 (by omega)
    have hs : a.spot = none := by
      have := World.cell?_spot h0
      simpa [Addr.add] using this
    obtain ⟨b, off, spot⟩ := a
    dsimp only at hs
    subst hs
    refine ⟨b, off, cap, rfl, ?_, hl, fun j hj => ?_⟩
    · have := block_lt_of_cell h0
      simpa [Addr.add] using this
    · have := hcell j (by omega)
      rw [Addr.add_lit] at this
      rw [this]
      have e : (zs.take len).getD j 0 = zs.getD j 0 := by simp [List.getD, hj]
      rw [e]
end Go.Proofs.Ytcdmebjggdhhdaa
