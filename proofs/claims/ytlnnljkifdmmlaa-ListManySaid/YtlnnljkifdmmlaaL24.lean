/- Copies of lists of items; what a statement keeps of its arena while it makes lists. -/
import Derived.Test.YtlnnljkifdmmlaaL23
namespace Go.Proofs.Ytlnnljkifdmmlaa
open Go.RowKit

theorem ItemsArg.below {w w' : World} {v : Value} {l : List (Int × Int)} (h : ItemsArg w v l) (hb : Below w.heap.size w w') : ItemsArg w' v l := ⟨h.items.below hb, h.wf, h.len⟩
/-- A copy of a list of items: 'append([]Item(nil), l...)'. -/
theorem wpList_copy_items {w : World} {v : Value} {l : List (Int × Int)} (hI : Items w v l) (hl : 0 < l.length) (hlen : l.length ≤ 1000000000)
    {ops : Array Oper} {rest : List Oper} {o : Oper} {a : Act} {Q : Exit → Act → World → Prop}
    (hg : o.guard = none) (s x : Operand) (hop : o.op = Op.call { callee := Callee.builtin Builtin.append, args := #[s, x], argTypes := #[22, 22] })
    (hs : a.eval s = .slice none 0 0) (hx : a.eval x = v)
    (h : ∀ v' w', w'.ownsRow w.heap.size 24 2 v' l.length (itemCells l) → w.grownBy w' none → wpList Try.prog ops Q rest (a.put o.dst v') w') : wpList Try.prog ops Q (o :: rest) a w := by
  obtain ⟨i0, hi, hz0, hz1, hz2⟩ := info_parts info_item
  obtain ⟨b, off, c, rfl, hlt, hc, hcell⟩ := hI.cell 0 hl
  have news : ∀ j u, (itemCells l)[j]? = some u → w.cell? ((⟨b, off, none⟩ : Addr).add j) = some u := by
    intro j u hj
    have hjl : j < l.length * 2 := by have := (List.getElem?_eq_some_iff.1 hj).1; rwa [itemCells_len] at this
    obtain ⟨e1, e2⟩ := itemCells_at l (i := j / 2) (by omega)
    obtain ⟨c1, c2⟩ := hcell (j / 2) (by omega)
    rw [Addr.add_lit]
    rcases Nat.mod_two_eq_zero_or_one j with hm | hm
    · rw [show j / 2 * 2 = j by omega] at e1 c1
      rw [c1, ← e1, hj]
    · rw [show j / 2 * 2 + 1 = j by omega] at e2
      rw [show off + j / 2 * 2 + 1 = off + j by omega] at c2
      rw [c2, ← e2, hj]
  have one : ∀ u ∈ itemCells l, u.oneCell' = true := by
    intro u hu
    obtain ⟨x, _, hx⟩ := List.mem_flatMap.1 hu
    simp at hx
    rcases hx with rfl | rfl <;> rfl
  obtain ⟨v', w', hrun, r1, r2, _⟩ := run_append_own (P := Try.prog) w w.heap.size 22 o.type 24 i0 (.agg #[.int .i64 0, .int .i64 0]) 2 16 Try.underlying22 hi hz0 hz1 hz2 rfl (by decide) (.slice none 0 0) 0 [] (World.ownsRow_nil _ _ _ _) ⟨b, off, none⟩ l.length c (itemCells l) (itemCells_len l) news one (by unfold maxLen; omega) (by omega) (Nat.le_refl _)
  refine wpList_plain hg fun K' hK' => ?_
  unfold Oper.wp
  simp [execOp, hop, resolve, invoke, builtin, hs, hx, hrun, Result.andThen]
  exact hK' _ _ (h v' w' (by simpa using r1) r2)
theorem setL_getD {α : Type} {l : List α} {k j : Nat} {y d : α} (hk : k < l.length) (hj : j < l.length) : (setL l k y).getD j d = if j = k then y else l.getD j d := by
  unfold setL
  rw [List.getD_eq_getElem?_getD, List.getD_eq_getElem?_getD, List.getElem?_append, List.length_take]
  by_cases e : j = k
  · subst e; rw [if_pos rfl, if_neg (by omega)]; simp [show min j l.length = j by omega]
  · rw [if_neg e]
    by_cases h : j < k
    · rw [if_pos (by omega), List.getElem?_take, if_pos h]
    · rw [if_neg (by omega), show j - min k l.length = (j - k - 1) + 1 by omega, List.getElem?_cons_succ, List.getElem?_drop, show k + 1 + (j - k - 1) = j by omega]
theorem setL_length {α : Type} {l : List α} {k : Nat} {y : α} (hk : k < l.length) : (setL l k y).length = l.length := by
  unfold setL
  simp
  omega
theorem insL_length {α : Type} {l : List α} {k : Nat} {y : α} (hk : k ≤ l.length) : (insL l k y).length = l.length + 1 := by
  unfold insL
  simp
  omega
theorem delL_length {α : Type} {l : List α} {k : Nat} (hk : k < l.length) : (delL l k).length + 1 = l.length := by
  unfold delL
  simp
  omega
theorem insL_end {α : Type} {l : List α} {y : α} : insL l l.length y = l ++ [y] := by simp [insL]
/-- One item of a slice of our own is set. -/
theorem items_set {w : World} {B g cap n : Nat} {l : List (Int × Int)} (h : w.ownsRow B 24 2 (.slice (some ⟨g, 0, none⟩) n cap) l.length (itemCells l)) {k : Nat} (hk : k < l.length) (y : Int × Int) :
    n = l.length ∧ B ≤ g ∧ w.cell? ⟨g, k * 2, none⟩ = some (.int .i64 (l.getD k (0, 0)).1) ∧ w.cell? ⟨g, k * 2 + 1, none⟩ = some (.int .i64 (l.getD k (0, 0)).2) ∧ (∀ o, w.frozen? ⟨g, o, none⟩ = false) ∧
    Items ((w.setCell ⟨g, k * 2, none⟩ (.int .i64 y.1)).setCell ⟨g, k * 2 + 1, none⟩ (.int .i64 y.2)) (.slice (some ⟨g, 0, none⟩) n cap) (setL l k y) := by
  rcases h.2 with ⟨e, _⟩ | ⟨g', cap', cur, e, hg, hh, hl, hm, hs, ht⟩
  · cases e
  · cases e
    have hc : ∀ j, j < l.length * 2 → cur[j]? = (itemCells l)[j]? := fun j hj => by rw [← ht, List.getElem?_take, if_pos hj, Array.getElem?_toList]
    obtain ⟨a1, a2⟩ := itemCells_at l hk
    refine ⟨rfl, hg, ?_, ?_, fun o => frozen_of_row _ _ _ _ _ hh, ?_⟩
    · rw [cell_of_row _ _ _ _ _ _ hh, hc _ (by omega), a1]
    · rw [cell_of_row _ _ _ _ _ _ hh, hc _ (by omega), a2]
    · have h1 := heap_setCell_same w g (k * 2) cur 24 (.int .i64 y.1) hh
      have h2 := heap_setCell_same _ g (k * 2 + 1) _ 24 (.int .i64 y.2) h1
      refine ⟨⟨_, _, by rw [setL_length hk]⟩, fun i _ => ⟨g, 0, cap, by rw [setL_length hk], lt_heap h2, by rw [setL_length hk]; exact hl, fun j hj => ?_⟩⟩
      rw [setL_length hk] at hj
      obtain ⟨b1, b2⟩ := itemCells_at l hj
      rw [setL_getD hk hj, cell_of_row _ _ _ _ _ _ h2, cell_of_row _ _ _ _ _ _ h2, Nat.zero_add]
      simp only [Array.getElem?_setIfInBounds, Array.size_setIfInBounds]
      by_cases e : j = k
      · subst e
        rw [if_pos rfl]
        constructor
        · rw [if_neg (by omega), if_pos rfl, if_pos (by omega)]
        · rw [if_pos rfl, if_pos (by omega), if_pos rfl]
      · rw [if_neg e]
        constructor
        · rw [if_neg (by omega), if_neg (by omega), hc _ (by omega), b1]
        · rw [if_neg (by omega), if_neg (by omega), hc _ (by omega), b2]

/-- So many nodes are busy at most; L are had; the counts are at most B. -/
structure LS (w : World) (K : Nat → Prop) (p n : Nat) (k : Nat) (s : Ar) (L : List Int) (W : World) : Prop where
  ars : Ars W K p s
  good : Good s (1300 * k) L
  n : s.n = n
  busy : s.busy ≤ 37 * k
  kept : Kept K w W
section
variable {w W W' : World} {K : Nat → Prop} {p n k : Nat} {s s' : Ar} {L : List Int}
theorem LS.below (h : LS w K p n k s L W) (hb : Below W.heap.size W W') : LS w K p n k s L W' := ⟨h.ars.below hb, h.good, h.n, h.busy, h.kept.trans (Kept.of_below hb K)⟩
theorem LS.made {m : Nat} {g : Int} (h : LS w K p n k s L W) (ha : Ars W' K p s') (hk : Kept K W W') (hg : Good s' (1300 * k + 1300) (g :: L)) (hx : Ext s s') (hb : s'.busy ≤ s.busy + room m) : LS w K p n (k + 1) s' (g :: L) W' :=
  ⟨ha, hg.mono (by omega), hx.n.trans h.n, by have := h.busy; unfold room at hb; omega, h.kept.trans hk⟩
theorem LS.room (h : LS w K p n k s L W) {m : Nat} (hn : 37 * (k + 1) ≤ n) : s.busy + Proofs.Ytlnnljkifdmmlaa.room m ≤ s.n := by
  have := h.busy
  have := h.n
  unfold Proofs.Ytlnnljkifdmmlaa.room
  omega
end
end Go.Proofs.Ytlnnljkifdmmlaa
