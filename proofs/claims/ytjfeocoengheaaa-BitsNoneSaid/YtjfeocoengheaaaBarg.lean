/- An argument that is a list of bits. -/
import Derived.Test.YtjfeocoengheaaaLaw
import Derived.Test.YtjfeocoengheaaaBls
import Derived.Deep.Grids
namespace Go.Proofs.Ytjfeocoengheaaa
set_option maxRecDepth 100000
open Go.ChangeShapes Go.WideShapes Go.ChangeAt Go.RowKit

/-- The value reads as the bits xs. -/
structure BoolsArg (w : World) (v : Value) (xs : List Bool) : Prop where
  val : ∃ a c, v = .slice a xs.length c
  cell : ∀ i, i < xs.length → ∃ b off c, v = .slice (some ⟨b, off, none⟩) xs.length c ∧ b < w.heap.size ∧ xs.length ≤ c ∧ c ≤ maxLen ∧ ∀ j, j < xs.length → w.cell? ⟨b, off + j, none⟩ = some (.bool (xs.getD j false))
  len : xs.length ≤ maxLen

theorem bools_arg {H : Type} {enc : TypeId × Value → H} {W : World} {v : Value} {d : DataW H} {ps : List MemPlace} {r : Reach} {b0 : Nat} (hv : Value.okWide Try.prog W r b0 22 v)
    (h : DataW.Trod enc Try.prog W 0 (fun _ => true) true 22 v d ps) : ∃ xs, BoolsArg W v xs := by
  obtain ⟨a0, len, cap, rfl⟩ := okWide_slice Try.underlying22 hv
  obtain ⟨fuel, hf⟩ := h
  rcases Go.Deep.open_bools Try.underlying22 Try.underlying4 (by kernel_rfl) hf with ⟨hcs, _⟩ | ⟨a, len', cap', B, hcs, _, hl, hm, _, hcell⟩
  · simp [Value.cells] at hcs
    obtain ⟨rfl, rfl, rfl⟩ := hcs
    exact ⟨[], ⟨_, _, rfl⟩, fun i hi => absurd hi (Nat.not_lt_zero _), Nat.zero_le _⟩
  · simp [Value.cells] at hcs
    obtain ⟨rfl, rfl, rfl⟩ := hcs
    have hlen : ((List.range len).map B).length = len := by simp
    refine ⟨(List.range len).map B, ⟨some a, cap, by rw [hlen]⟩, fun i hi => ?_, by rw [hlen]; omega⟩
    rw [hlen] at hi ⊢
    have h0 := hcell 0 (by omega)
    have hs : a.spot = none := by
      have := World.cell?_spot h0
      simpa [Addr.add] using this
    obtain ⟨b, off, spot⟩ := a
    dsimp only at hs
    subst hs
    refine ⟨b, off, cap, rfl, ?_, hl, hm, fun j hj => ?_⟩
    · have := block_lt_of_cell h0
      simpa [Addr.add] using this
    · have := hcell j (by omega)
      rw [Addr.add_lit] at this
      rw [this]
      simp [List.getD, hj]
end Go.Proofs.Ytjfeocoengheaaa
