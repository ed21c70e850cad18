/- Lists of numbers: readable ones; sorted, and copied, by Go's library. -/
import Derived.Test.YtcdmebjggdhhdaaShelf
import Derived.Test.YtcdmebjggdhhdaaLs3
import Derived.Test.YtcdmebjggdhhdaaRch
import Derived.Lib.OwnBridge
import Derived.Lib.AppendIntMem
namespace Go.Proofs.Ytcdmebjggdhhdaa
open Go.RowKit Go.Sort

/-- The value reads as the numbers xs. -/
def Ints (w : World) (v : Value) (xs : List Int) : Prop := (v = .slice none 0 0 ∧ xs = []) ∨ ∃ b off c, v = .slice (some ⟨b, off, none⟩) xs.length c ∧ b < w.heap.size ∧ xs.length ≤ c ∧ ∀ j, j < xs.length → w.cell? ⟨b, off + j, none⟩ = some (.int .i64 (xs.getD j 0))
section
variable {w w' : World} {B : Nat} {K K' : Nat → Prop} {v : Value} {xs : List Int}
theorem Ints.slice (h : Ints w v xs) : ∃ a c, v = .slice a xs.length c := by
  rcases h with ⟨rfl, rfl⟩ | ⟨b, off, c, rfl, _⟩
  · exact ⟨_, _, rfl⟩
  · exact ⟨_, _, rfl⟩
theorem Ints.below (h : Ints w v xs) (hb : Below w.heap.size w w') : Ints w' v xs := by
  rcases h with h | ⟨b, off, c, e, h1, h2, h3⟩
  · exact .inl h
  · exact .inr ⟨b, off, c, e, Nat.lt_of_lt_of_le h1 hb.size, h2, fun j hj => (hb.cell (p := ⟨b, off + j, none⟩) h1).trans (h3 j hj)⟩
theorem Lst.ints (h : Lst w B K v xs) : Ints w v xs := by
  obtain ⟨⟨h1, h2⟩, h3⟩ := h
  rcases h2 with ⟨rfl, e⟩ | ⟨g, cap, cur, rfl, hg, hh, hl, hm, hs, ht⟩
  · exact .inl ⟨rfl, List.length_eq_zero_iff.1 e⟩
  · refine .inr ⟨g, 0, cap, rfl, lt_heap hh, hl, fun j hj => ?_⟩
    rw [Nat.zero_add, cell_of_row _ _ _ _ _ _ hh, ← Array.getElem?_toList]
    have e : (cur.toList.take (xs.length * 1))[j]? = (xs.map (Value.int .i64))[j]? := by rw [ht]
    rw [List.getElem?_take, if_pos (by omega)] at e
    rw [e]
    simp [hj]
/-- What a call leaves that changes blocks of K alone. -/
structure Only (K : Nat → Prop) (w w' : World) : Prop where
  os : w'.os = w.os
  tape : w'.tape = w.tape
  output : w'.output = w.output
  size : w.heap.size ≤ w'.heap.size
  same : ∀ b, b < w.heap.size → ¬ K b → w'.heap[b]? = w.heap[b]?
theorem Only.kept (h : Only K w w') (hK : ∀ b, K' b → ¬ K b) : Kept K' w w' := ⟨h.os, h.tape, h.output, h.size, fun b hb hk => h.same b hb (hK b hk)⟩
theorem Only.below (h : Only K w w') (hK : ∀ b, K b → B ≤ b) (hB : B ≤ w.heap.size) : Below B w w' := ⟨h.os, h.tape, h.output, h.size, fun b hb => h.same b (by omega) fun e => by have := hK b e; omega⟩
theorem Lst.shrink {g cap L : Nat} (h : Lst w B K (.slice (some ⟨g, 0, none⟩) L cap) xs) {m : Nat} (hm : m ≤ xs.length) : Lst w B K (.slice (some ⟨g, 0, none⟩) m cap) (xs.take m) := by
  obtain ⟨⟨h1, h2⟩, h3⟩ := h
  rcases h2 with ⟨e, _⟩ | ⟨g', cap', cur, e, hg, hh, hl, hmx, hs, ht⟩
  · cases e
  · injection e with e1 e2 e3
    injection e1 with e1
    injection e1 with e1
    subst e1 e3
    have hlen : (xs.take m).length = m := by rw [List.length_take]; omega
    refine ⟨⟨by simp, .inr ⟨g, cap, cur, by rw [hlen], hg, hh, by omega, hmx, hs, ?_⟩⟩, fun g' e => h3 g' (by simpa [Value.ownBlock] using e)⟩
    rw [hlen, List.map_take, ← ht, List.take_take]
    congr 1
    omega
set_option maxHeartbeats 1000000 in
/-- slices.Sort over an own list. -/
theorem sort_lst (hL : Lst w B K v xs) (hlen : xs.length ≤ 1000000000) :
    Calls Try.prog 42 #[v] w fun e w' => e = .returned (.tuple #[]) ∧ Lst w' B K v (xs.mergeSort fun x y => decide (x ≤ y)) ∧ Only K w w' := by
  have hml : (xs.mergeSort fun x y => decide (x ≤ y)).length = xs.length := List.length_mergeSort xs
  by_cases h0 : xs.length = 0
  · have e0 : xs = [] := List.length_eq_zero_iff.1 h0
    obtain ⟨a, c, e⟩ := hL.slice
    subst e0
    rw [e] at hL ⊢
    refine (Try.slices_Sort_int_none a c w).mono ?_
    rintro e w' ⟨rfl, rfl⟩
    exact ⟨rfl, by simpa using hL, rfl, rfl, rfl, Nat.le_refl _, fun _ _ _ => rfl⟩
  · have hv : v ≠ .slice none 0 0 := by
      obtain ⟨⟨h1, h2⟩, h3⟩ := hL
      rcases h2 with ⟨_, e⟩ | ⟨g, cap, cur, rfl, _⟩
      · exact absurd e h0
      · intro e; cases e
    obtain ⟨g, cap, rfl, hb, hlt, hn, hm, hl, hH⟩ := Go.Lib.holds_of_ownsRow hL.1 hv
    refine (Try.slices_Sort_int g 0 cap xs w hH hlt (by omega)).mono ?_
    rintro e w' ⟨rfl, q, os, rfl⟩
    have ho := Go.Lib.ownsRow_putRow (q := q) (k := xs.length) hL.1 hml (Nat.le_refl _)
    rw [show (xs.mergeSort fun x y => decide (x ≤ y)).take xs.length = (xs.mergeSort fun x y => decide (x ≤ y)) from List.take_of_length_le (by omega)] at ho
    have ho2 := Go.Lib.ownsRow_grow ho 0 os
    refine ⟨rfl, ⟨by rw [hml]; exact ho2, hL.2⟩, rfl, rfl, rfl, ?_, fun b hb hk => ?_⟩
    · show w.heap.size ≤ (_ ++ os).size
      rw [Array.size_append]
      simp [putRow, mapBlock, Sort.ahead]
    · have hne : g ≠ b := fun e => hk (by rw [← e]; exact hL.2 g rfl)
      show (_ ++ os)[b]? = _
      rw [Array.getElem?_append_left (by simpa [putRow, mapBlock, Sort.ahead] using hb)]
      simp [putRow, mapBlock, Sort.ahead, Array.getElem?_modify, hne]
set_option maxHeartbeats 1000000 in
/-- slices.Clone of a readable list. -/
theorem clone_ints (hI : Ints w v xs) (hlen : xs.length ≤ 1000000000) :
    Calls Try.prog 41 #[v] w fun e w' => ∃ v', e = .returned v' ∧ Lst w' w.heap.size (fun b => w.heap.size ≤ b ∧ b < w'.heap.size) v' xs ∧ Below w.heap.size w w' := by
  rcases hI with ⟨rfl, rfl⟩ | ⟨b, off, c, rfl, h1, h2, h3⟩
  · refine (Try.slices_Clone_int_nil 0 0 w).mono ?_
    rintro e w' ⟨rfl, rfl⟩
    exact ⟨_, rfl, Lst.nil _ _ _, Below.refl _ _⟩
  · refine (Try.slices_Clone_int b off xs.length c xs w (Nat.le_refl _) (by omega) h3).mono ?_
    rintro e w' ⟨v', rfl, ho, hv, hb⟩
    rw [List.take_of_length_le (Nat.le_refl _)] at ho
    refine ⟨v', rfl, ⟨ho, fun g hg => ?_⟩, hb⟩
    rcases ho.2 with ⟨rfl, _⟩ | ⟨g', cap, cur, rfl, hbg, hh, _⟩
    · cases hg
    · cases hg
      exact ⟨hbg, lt_heap hh⟩
end
end Go.Proofs.Ytcdmebjggdhhdaa
