/- A list of numbers that the caller itself grows, beside the arena and the cell. -/
import Derived.Test.YtcdmebjggdhhdaaA7
namespace Go.Proofs.Ytcdmebjggdhhdaa
open Go.RowKit

/-- The slice v holds the numbers xs; its row is one of K, from block B on. -/
def Lst (w : World) (B : Nat) (K : Nat → Prop) (v : Value) (xs : List Int) : Prop := w.ownsRow B 3 1 v xs.length (xs.map (Value.int .i64)) ∧ ∀ g, v.ownBlock = some g → K g

section
variable {w w' : World} {B : Nat} {K K' : Nat → Prop} {v : Value} {xs : List Int}
theorem Lst.nil (w : World) (B : Nat) (K : Nat → Prop) : Lst w B K (.slice none 0 0) [] := ⟨⟨rfl, .inl ⟨rfl, rfl⟩⟩, fun g h => by cases h⟩
theorem Lst.kept (h : Lst w B K v xs) (hk : Kept K w w') : Lst w' B K v xs := by
  obtain ⟨⟨h1, h2⟩, h3⟩ := h
  refine ⟨⟨h1, ?_⟩, h3⟩
  rcases h2 with h2 | ⟨g, cap, cur, rfl, hg, hh, r⟩
  · exact .inl h2
  · exact .inr ⟨g, cap, cur, rfl, hg, (hk.block g (lt_heap hh) (h3 g rfl)).trans hh, r⟩
theorem Lst.mono (h : Lst w B K v xs) (hk : ∀ b, b < w.heap.size → K b → K' b) : Lst w B K' v xs := by
  obtain ⟨⟨h1, h2⟩, h3⟩ := h
  refine ⟨⟨h1, h2⟩, fun g e => ?_⟩
  rcases h2 with ⟨rfl, _⟩ | ⟨g', cap, cur, rfl, hg, hh, r⟩
  · cases e
  · cases e
    exact hk _ (lt_heap hh) (h3 _ rfl)
theorem Lst.slice (h : Lst w B K v xs) : ∃ a c, v = .slice a xs.length c := by
  rcases h.1.2 with ⟨rfl, e⟩ | ⟨g, cap, cur, rfl, _⟩
  · exact ⟨none, 0, by rw [e]⟩
  · exact ⟨_, _, rfl⟩
theorem Lst.at_ (h : Lst w B K v xs) {i : Nat} (hi : i < xs.length) : ∃ g c, v = .slice (some ⟨g, 0, none⟩) xs.length c ∧ xs.length ≤ c ∧ K g ∧ ∀ j, j < xs.length → w.cell? ⟨g, j, none⟩ = some (.int .i64 (xs.getD j 0)) := by
  obtain ⟨⟨h1, h2⟩, h3⟩ := h
  rcases h2 with ⟨rfl, e⟩ | ⟨g, cap, cur, rfl, hg, hh, hl, hm, hs, ht⟩
  · omega
  · refine ⟨g, cap, rfl, hl, h3 g rfl, fun j hj => ?_⟩
    rw [cell_of_row _ _ _ _ _ _ hh, ← Array.getElem?_toList]
    have e : (cur.toList.take (xs.length * 1))[j]? = (xs.map (Value.int .i64))[j]? := by rw [ht]
    rw [List.getElem?_take, if_pos (by omega)] at e
    rw [e]
    simp [hj]
end

theorem Ars.step {w w' : World} {K K' : Nat → Prop} {p : Nat} {s : Ar} (h : Ars w K p s) (hs : w.heap.size ≤ w'.heap.size) (hb : ∀ b, b < w.heap.size → ¬ K b → w'.heap[b]? = w.heap[b]?) (hk : ∀ b, K' b → b < w'.heap.size ∧ (K b ∨ w.heap.size ≤ b)) : Ars w' K' p s := by
  obtain ⟨N, C, U, wv, h⟩ := h
  have g := h.kept hs hb
  have ne : ∀ b, b < w.heap.size → ¬ K b → ¬ K' b := fun b hlt hn e => by rcases (hk b e).2 with x | x; exact hn x; omega
  refine ⟨N, C, U, wv, g.hp, g.hN, g.hC, g.hU, ne _ (lt_heap h.hp) h.kp, ne _ (lt_heap h.hN) h.kN, ne _ (lt_heap h.hC) h.kC, ne _ (lt_heap h.hU) h.kU, ?_, fun b e => (hk b e).1⟩
  rcases h.hW with h5 | ⟨g', off, cap, cs, e, n1, n2, n3, n4⟩
  · exact .inl h5
  · exact .inr ⟨g', off, cap, cs, e, n1, ne _ (lt_heap n3) n2, (hb _ (lt_heap n3) n2).trans n3, n4⟩
/-- What an append to the list leaves. -/
structure Pushed (w w' : World) (B : Nat) (K K' : Nat → Prop) (v' : Value) (xs : List Int) : Prop where
  lst : Lst w' B K' v' xs
  more : ∀ b, K b → K' b
  new : ∀ b, K' b → b < w'.heap.size ∧ (K b ∨ w.heap.size ≤ b)
  size : w.heap.size ≤ w'.heap.size
  same : ∀ b, b < w.heap.size → ¬ K b → w'.heap[b]? = w.heap[b]?
  below : Below B w w'
  ne : ∃ a c, v' = .slice (some a) xs.length c

/-- 'append' of one number to the list. -/
theorem wpList_append_lst {w : World} {B : Nat} {K : Nat → Prop} {v : Value} {xs : List Int} (hL : Lst w B K v xs) (hlt : ∀ b, K b → b < w.heap.size) (hB : B ≤ w.heap.size) (hlen : xs.length + 1 ≤ 1000000000)
    {ops : Array Oper} {rest : List Oper} {o : Oper} {a : Act} {Q : Exit → Act → World → Prop}
    (hg : o.guard = none) (s x : Operand) (hop : o.op = Op.call { callee := Callee.builtin Builtin.append, args := #[s, x], argTypes := #[35, 35] })
    (hs : a.eval s = v) (ad : Addr) (y : Int) (c : Nat) (hx : a.eval x = .slice (some ad) 1 c) (hc : w.cell? ad = some (.int .i64 y))
    (h : ∀ v' w' K', Pushed w w' B K K' v' (xs ++ [y]) → wpList Try.prog ops Q rest (a.put o.dst v') w') : wpList Try.prog ops Q (o :: rest) a w := by
  obtain ⟨i0, hi, hz0, hz1, hz2⟩ := info_parts info_int
  have news : ∀ j u, ([Value.int .i64 y] : List Value)[j]? = some u → w.cell? (ad.add j) = some u := by
    intro j u hj
    match j, hj with
    | 0, hj => simp at hj; subst hj; simpa [Addr.add] using hc
  have one : ∀ u ∈ ([Value.int .i64 y] : List Value), u.oneCell' = true := by intro u hu; simp at hu; subst hu; rfl
  obtain ⟨⟨h1, h2⟩, h3⟩ := hL
  have grow : ∀ v' w', w'.ownsRow w.heap.size 3 1 v' (xs.length + 1) (xs.map (Value.int .i64) ++ [.int .i64 y]) → w.grownBy w' none → wpList Try.prog ops Q rest (a.put o.dst v') w' := by
    intro v' w' ho hgr
    obtain ⟨g, cap, cur, rfl, hgg, hh, r1, r2, r3, r4⟩ : ∃ g cap cur, v' = .slice (some ⟨g, 0, none⟩) (xs.length + 1) cap ∧ w.heap.size ≤ g ∧ w'.heap[g]? = some (.cells cur 3 (0, 0)) ∧ xs.length + 1 ≤ cap ∧ cap ≤ maxLen ∧ cur.size = cap * 1 ∧ cur.toList.take ((xs.length + 1) * 1) = xs.map (Value.int .i64) ++ [.int .i64 y] := by
      rcases ho.2 with ⟨_, h⟩ | h
      · omega
      · exact h
    refine h _ w' (fun b => K b ∨ b = g) ⟨⟨⟨by simp, .inr ⟨g, cap, cur, by simp, by omega, hh, by simpa using r1, r2, r3, by simpa using r4⟩⟩, fun g' e => by cases e; exact .inr rfl⟩, fun b hb => .inl hb, fun b hb => ?_, hgr.size, fun b hb _ => hgr.block b hb (by simp), ?_, ⟨g, 0, none⟩, cap, by simp⟩
    · rcases hb with hb | rfl
      · exact ⟨Nat.lt_of_lt_of_le (hlt b hb) hgr.size, .inl hb⟩
      · exact ⟨lt_heap hh, .inr hgg⟩
    · exact (Below.refl _ _).grown hgr hB (fun k e => by cases e)
  rcases h2 with ⟨rfl, e⟩ | ⟨g, cap, cur, rfl, hgg, hh, hl, hm, hcs, ht⟩
  · have e0 : xs = [] := List.length_eq_zero_iff.1 e
    subst e0
    exact wpList_append_grows w hg s x 35 hop 3 i0 (.int .i64 0) 1 8 Try.underlying35 hi hz0 hz1 hz2 rfl (by decide) none 0 0 [] hs (fun _ => ⟨rfl, rfl⟩) rfl (fun b hb => by cases hb) ad 1 c [.int .i64 y] hx rfl news one
      (by omega) (by unfold maxLen; omega) (by omega) grow
  · have old : ∀ j u, (xs.map (Value.int .i64))[j]? = some u → w.cell? ⟨g, 0 + j, none⟩ = some u := by
      intro j u hj
      have hj' : j < xs.length := by have := (List.getElem?_eq_some_iff.1 hj).1; simpa using this
      rw [cell_of_row _ _ _ _ _ _ hh, ← hj, ← ht, List.getElem?_take, if_pos (by omega), Array.getElem?_toList, Nat.zero_add]
    refine wpList_append_arg w hg s x 35 hop 3 i0 (.int .i64 0) 1 8 Try.underlying35 hi hz0 hz1 hz2 rfl (by decide) g 0 xs.length cap (xs.map (Value.int .i64)) hs (by simp) old ad 1 c [.int .i64 y] hx rfl news one
      (fun hr j hj => ?_) (by unfold maxLen; omega) (by omega) (fun hr => ?_) (fun _ v' w' ho hgr => grow v' w' ho hgr)
    · obtain rfl : j = 0 := by simp at hj; omega
      rw [cell_of_row _ _ _ _ _ _ hh]
      refine ⟨by simp; omega, frozen_of_row _ _ _ _ _ hh⟩
    · have e1 : w.setCells g (0 + xs.length * 1) [.int .i64 y] = w.setCell ⟨g, xs.length, none⟩ (.int .i64 y) := by
        simp [World.setCells]
      rw [e1]
      have hh' := heap_setCell_same w g xs.length cur 3 (.int .i64 y) hh
      refine h _ _ K ⟨⟨⟨by simp, .inr ⟨g, cap, _, by simp, hgg, hh', by simpa using hr, hm, by simpa using hcs, ?_⟩⟩, fun g' e => by cases e; exact h3 _ rfl⟩, fun b hb => hb, fun b hb => ⟨by simpa using hlt b hb, .inl hb⟩, by simp, fun b _ hn => Below.heap_setCell _ _ _ _ (by rintro rfl; exact hn (h3 _ rfl)), (Below.refl _ _).setCell hgg _, ⟨g, 0, none⟩, cap, by simp⟩
      have ht' : cur.toList.take xs.length = xs.map (Value.int .i64) := by simpa using ht
      have hlt' : xs.length < cur.toList.length := by simp; omega
      rw [Array.toList_setIfInBounds]
      simp only [List.length_append, List.length_singleton, Nat.mul_one, List.map_append, List.map_cons, List.map_nil]
      rw [List.take_add_one, List.take_set, ht', List.getElem?_set, if_pos rfl, if_pos hlt', List.set_eq_of_length_le (by simp)]
      rfl
end Go.Proofs.Ytcdmebjggdhhdaa
