/- A list of numbers that the caller itself grows, beside the arena and the cell. -/
import Derived.Test.YtcdmebjggdhhdaaA7
import Derived.Maps.AppendAt
import Derived.Test.YtcdmebjggdhhdaaShelf
import Derived.Test.YtcdmebjggdhhdaaRch
import Derived.Lib.OwnBridge
import Derived.Lib.AppendIntMem
import Derived.Test.YtcdmebjggdhhdaaMem
import Derived.Maps.OwnOps
import Derived.Maps.Views
import Derived.Maps.OwnSet
import Derived.Deep.LoopGhost
namespace Go.Proofs.Ytcdmebjggdhhdaa
open Go.RowKit

/-- The slice v holds the numbers xs; its row is one of K, from block B on. -/
def Lst (w : World) (B : Nat) (K : Nat → Prop) (v : Value) (xs : List Int) : Prop := w.ownsRow B 3 1 v xs.length (xs.map (Value.int .i64)) ∧ ∀ g, v.ownBlock = some g → K g

section
variable {w w' : World} {B : Nat} {K K' : Nat → Prop} {v : Value} {xs : List Int}
theorem Lst.nil (w : World) (B : Nat) (K : Nat → Prop) : Lst w B K (.slice none 0 0) [] := ⟨⟨rfl, .inl ⟨rfl, rfl⟩⟩, fun g h => by cases h⟩
theorem Lst.kept (h : Lst w B K v xs) (hk : Kept K w w') : Lst w' B K v xs := by
  obtain ⟨⟨h1, h2⟩, h3⟩ := h
  refine ⟨⟨h1, ?_⟩, h3⟩
  rcases h2 with h2 | ⟨g, cap, cur, rfl, hg, hh, r⟩
  · exact .inl h2
  · exact .inr ⟨g, cap, cur, rfl, hg, (hk.block g (lt_heap hh) (h3 g rfl)).trans hh, r⟩
theorem Lst.mono (h : Lst w B K v xs) (hk : ∀ b, b < w.heap.size → K b → K' b) : Lst w B K' v xs := by
  obtain ⟨⟨h1, h2⟩, h3⟩ := h
  refine ⟨⟨h1, h2⟩, fun g e => ?_⟩
  rcases h2 with ⟨rfl, _⟩ | ⟨g', cap, cur, rfl, hg, hh, r⟩
  · cases e
  · cases e
    exact hk _ (lt_heap hh) (h3 _ rfl)
theorem Lst.slice (h : Lst w B K v xs) : ∃ a c, v = .slice a xs.length c := by
  rcases h.1.2 with ⟨rfl, e⟩ | ⟨g, cap, cur, rfl, _⟩
  · exact ⟨none, 0, by rw [e]⟩
  · exact ⟨_, _, rfl⟩
theorem Lst.at_ (h : Lst w B K v xs) {i : Nat} (hi : i < xs.length) : ∃ g c, v = .slice (some ⟨g, 0, none⟩) xs.length c ∧ xs.length ≤ c ∧ K g ∧ ∀ j, j < xs.length → w.cell? ⟨g, j, none⟩ = some (.int .i64 (xs.getD j 0)) := by
  obtain ⟨⟨h1, h2⟩, h3⟩ := h
  rcases h2 with ⟨rfl, e⟩ | ⟨g, cap, cur, rfl, hg, hh, hl, hm, hs, ht⟩
  · omega
  · refine ⟨g, cap, rfl, hl, h3 g rfl, fun j hj => ?_⟩
    rw [cell_of_row _ _ _ _ _ _ hh, ← Array.getElem?_toList]
    have e : (cur.toList.take (xs.length * 1))[j]? = (xs.map (Value.int .i64))[j]? := by rw [ht]
    rw [List.getElem?_take, if_pos (by omega)] at e
    rw [e]
    simp [hj]
end

theorem Ars.step {w w' : World} {K K' : Nat → Prop} {p : Nat} {s : Ar} (h : Ars w K p s) (hs : w.heap.size ≤ w'.heap.size) (hb : ∀ b, b < w.heap.size → ¬ K b → w'.heap[b]? = w.heap[b]?) (hk : ∀ b, K' b → b < w'.heap.size ∧ (K b ∨ w.heap.size ≤ b)) : Ars w' K' p s := by
  obtain ⟨N, C, U, wv, h⟩ := h
  have g := h.kept hs hb
  have ne : ∀ b, b < w.heap.size → ¬ K b → ¬ K' b := fun b hlt hn e => by rcases (hk b e).2 with x | x; exact hn x; omega
  refine ⟨N, C, U, wv, g.hp, g.hN, g.hC, g.hU, ne _ (lt_heap h.hp) h.kp, ne _ (lt_heap h.hN) h.kN, ne _ (lt_heap h.hC) h.kC, ne _ (lt_heap h.hU) h.kU, ?_, fun b e => (hk b e).1⟩
  rcases h.hW with h5 | ⟨g', off, cap, cs, e, n1, n2, n3, n4⟩
  · exact .inl h5
  · exact .inr ⟨g', off, cap, cs, e, n1, ne _ (lt_heap n3) n2, (hb _ (lt_heap n3) n2).trans n3, n4⟩
/-- What an append to the list leaves. -/
structure Pushed (w w' : World) (B : Nat) (K K' : Nat → Prop) (v' : Value) (xs : List Int) : Prop where
  lst : Lst w' B K' v' xs
  more : ∀ b, K b → K' b
  new : ∀ b, K' b → b < w'.heap.size ∧ (K b ∨ w.heap.size ≤ b)
  size : w.heap.size ≤ w'.heap.size
  same : ∀ b, b < w.heap.size → ¬ K b → w'.heap[b]? = w.heap[b]?
  below : Below B w w'
  ne : ∃ a c, v' = .slice (some a) xs.length c

/-- 'append' of one number to the list. -/
theorem wpList_append_lst {w : World} {B : Nat} {K : Nat → Prop} {v : Value} {xs : List Int} (hL : Lst w B K v xs) (hlt : ∀ b, K b → b < w.heap.size) (hB : B ≤ w.heap.size) (hlen : xs.length + 1 ≤ 1000000000)
    {ops : Array Oper} {rest : List Oper} {o : Oper} {a : Act} {Q : Exit → Act → World → Prop}
    (hg : o.guard = none) (s x : Operand) (hop : o.op = Op.call { callee := Callee.builtin Builtin.append, args := #[s, x], argTypes := #[35, 35] })
    (hs : a.eval s = v) (ad : Addr) (y : Int) (c : Nat) (hx : a.eval x = .slice (some ad) 1 c) (hc : w.cell? ad = some (.int .i64 y))
    (h : ∀ v' w' K', Pushed w w' B K K' v' (xs ++ [y]) → wpList Try.prog ops Q rest (a.put o.dst v') w') : wpList Try.prog ops Q (o :: rest) a w := by
  obtain ⟨i0, hi, hz0, hz1, hz2⟩ := info_parts info_int
  have news : ∀ j u, ([Value.int .i64 y] : List Value)[j]? = some u → w.cell? (ad.add j) = some u := by
    intro j u hj
    match j, hj with
    | 0, hj => simp at hj; subst hj; simpa [Addr.add] using hc
  have one : ∀ u ∈ ([Value.int .i64 y] : List Value), u.oneCell' = true := by intro u hu; simp at hu; subst hu; rfl
  obtain ⟨⟨h1, h2⟩, h3⟩ := hL
  have grow : ∀ v' w', w'.ownsRow w.heap.size 3 1 v' (xs.length + 1) (xs.map (Value.int .i64) ++ [.int .i64 y]) → w.grownBy w' none → wpList Try.prog ops Q rest (a.put o.dst v') w' := by
    intro v' w' ho hgr
    obtain ⟨g, cap, cur, rfl, hgg, hh, r1, r2, r3, r4⟩ : ∃ g cap cur, v' = .slice (some ⟨g, 0, none⟩) (xs.length + 1) cap ∧ w.heap.size ≤ g ∧ w'.heap[g]? = some (.cells cur 3 (0, 0)) ∧ xs.length + 1 ≤ cap ∧ cap ≤ maxLen ∧ cur.size = cap * 1 ∧ cur.toList.take ((xs.length + 1) * 1) = xs.map (Value.int .i64) ++ [.int .i64 y] := by
      rcases ho.2 with ⟨_, h⟩ | h
      · omega
      · exact h
    refine h _ w' (fun b => K b ∨ b = g) ⟨⟨⟨by simp, .inr ⟨g, cap, cur, by simp, by omega, hh, by simpa using r1, r2, r3, by simpa using r4⟩⟩, fun g' e => by cases e; exact .inr rfl⟩, fun b hb => .inl hb, fun b hb => ?_, hgr.size, fun b hb _ => hgr.block b hb (by simp), ?_, ⟨g, 0, none⟩, cap, by simp⟩
    · rcases hb with hb | rfl
      · exact ⟨Nat.lt_of_lt_of_le (hlt b hb) hgr.size, .inl hb⟩
      · exact ⟨lt_heap hh, .inr hgg⟩
    · exact (Below.refl _ _).grown hgr hB (fun k e => by cases e)
  rcases h2 with ⟨rfl, e⟩ | ⟨g, cap, cur, rfl, hgg, hh, hl, hm, hcs, ht⟩
  · have e0 : xs = [] := List.length_eq_zero_iff.1 e
    subst e0
    exact wpList_append_grows w hg s x 35 hop 3 i0 (.int .i64 0) 1 8 Try.underlying35 hi hz0 hz1 hz2 rfl (by decide) none 0 0 [] hs (fun _ => ⟨rfl, rfl⟩) rfl (fun b hb => by cases hb) ad 1 c [.int .i64 y] hx rfl news one
      (by omega) (by unfold maxLen; omega) (by omega) grow
  · have old : ∀ j u, (xs.map (Value.int .i64))[j]? = some u → w.cell? ⟨g, 0 + j, none⟩ = some u := by
      intro j u hj
      have hj' : j < xs.length := by have := (List.getElem?_eq_some_iff.1 hj).1; simpa using this
      rw [cell_of_row _ _ _ _ _ _ hh, ← hj, ← ht, List.getElem?_take, if_pos (by omega), Array.getElem?_toList, Nat.zero_add]
    refine wpList_append_arg w hg s x 35 hop 3 i0 (.int .i64 0) 1 8 Try.underlying35 hi hz0 hz1 hz2 rfl (by decide) g 0 xs.length cap (xs.map (Value.int .i64)) hs (by simp) old ad 1 c [.int .i64 y] hx rfl news one
      (fun hr j hj => ?_) (by unfold maxLen; omega) (by omega) (fun hr => ?_) (fun _ v' w' ho hgr => grow v' w' ho hgr)
    · obtain rfl : j = 0 := by simp at hj; omega
      rw [cell_of_row _ _ _ _ _ _ hh]
      refine ⟨by simp; omega, frozen_of_row _ _ _ _ _ hh⟩
    · have e1 : w.setCells g (0 + xs.length * 1) [.int .i64 y] = w.setCell ⟨g, xs.length, none⟩ (.int .i64 y) := by
        simp [World.setCells]
      rw [e1]
      have hh' := heap_setCell_same w g xs.length cur 3 (.int .i64 y) hh
      refine h _ _ K ⟨⟨⟨by simp, .inr ⟨g, cap, _, by simp, hgg, hh', by simpa using hr, hm, by simpa using hcs, ?_⟩⟩, fun g' e => by cases e; exact h3 _ rfl⟩, fun b hb => hb, fun b hb => ⟨by simpa using hlt b hb, .inl hb⟩, by simp, fun b _ hn => Below.heap_setCell _ _ _ _ (by rintro rfl; exact hn (h3 _ rfl)), (Below.refl _ _).setCell hgg _, ⟨g, 0, none⟩, cap, by simp⟩
      have ht' : cur.toList.take xs.length = xs.map (Value.int .i64) := by simpa using ht
      have hlt' : xs.length < cur.toList.length := by simp; omega
      rw [Array.toList_setIfInBounds]
      simp only [List.length_append, List.length_singleton, Nat.mul_one, List.map_append, List.map_cons, List.map_nil]
      rw [List.take_add_one, List.take_set, ht', List.getElem?_set, if_pos rfl, if_pos hlt', List.set_eq_of_length_le (by simp)]
      rfl
end Go.Proofs.Ytcdmebjggdhhdaa
namespace Go.Proofs.Ytcdmebjggdhhdaa
open Go.RowKit

/-- What an append of several numbers leaves. -/
structure PushedS (w w' : World) (B : Nat) (K K' : Nat → Prop) (v' : Value) (xs : List Int) : Prop where
  lst : Lst w' B K' v' xs
  more : ∀ b, K b → K' b
  new : ∀ b, K' b → b < w'.heap.size ∧ (K b ∨ w.heap.size ≤ b)
  size : w.heap.size ≤ w'.heap.size
  same : ∀ b, b < w.heap.size → ¬ K b → w'.heap[b]? = w.heap[b]?
  below : Below B w w'

theorem run_append_ints {w : World} {B : Nat} {K : Nat → Prop} {v : Value} {xs ys : List Int} (hL : Lst w B K v xs) (hlt : ∀ b, K b → b < w.heap.size) (hB : B ≤ w.heap.size) (ad : Addr) (m c : Nat) (hm : ys.length = m) (hlen : xs.length + m ≤ 1000000000)
    (hc : ∀ j, j < m → w.cell? (ad.add j) = some (.int .i64 (ys.getD j 0))) (ty : TypeId) :
    ∃ v' w' K', (Builtin.append_ #[35, 35] ty #[v, .slice (some ad) m c]).run Try.prog w = .ok v' w' ∧ PushedS w w' B K K' v' (xs ++ ys) := by
  obtain ⟨i0, hi, hz0, hz1, hz2⟩ := info_parts info_int
  have hLv := hL.1
  obtain ⟨v', w', hr, r1, r2, _, r4⟩ := run_append_own_at w B 35 ty 3 i0 (.int .i64 0) 1 8 Try.underlying35 hi hz0 hz1 hz2 rfl (by decide) v xs.length (xs.map (Value.int .i64)) hLv ad m c (ys.map (Value.int .i64)) (by simp [hm])
    (fun j u hj => by
      have hj' : j < ys.length := by have := (List.getElem?_eq_some_iff.1 hj).1; simpa using this
      rw [hc j (by omega), ← hj]
      simp [List.getD, hj'])
    (fun u hu => by
      obtain ⟨y, _, rfl⟩ := List.mem_map.1 hu
      rfl) (by unfold maxLen; omega) (by omega) hB
  have hvK : ∀ g, v.ownBlock = some g → K g := hL.2
  have hv' : ∀ g, v'.ownBlock = some g → g < w'.heap.size := by
    intro g hg
    rcases r1.2 with ⟨rfl, _⟩ | ⟨g', cap, cur, rfl, _, hh, _⟩
    · cases hg
    · cases hg; exact lt_heap hh
  refine ⟨v', w', fun b => K b ∨ v'.ownBlock = some b, hr, ⟨⟨?_, fun g hg => .inr hg⟩, fun b hb => .inl hb, fun b hb => ?_, r2.size, fun b hb hn => r2.block b hb fun e => hn (hvK b e.symm), ?_⟩⟩
  · have : (xs ++ ys).length = xs.length + m := by simp [hm]
    rw [this, List.map_append]
    exact r1
  · rcases hb with hb | hb
    · exact ⟨Nat.lt_of_lt_of_le (hlt b hb) r2.size, .inl hb⟩
    · refine ⟨hv' b hb, ?_⟩
      rcases r4 with e | e
      · rw [e] at hb; exact .inl (hvK b hb)
      · rw [e] at hb; injection hb with hb; exact .inr (by omega)
  · refine (Below.refl _ _).grown r2 hB fun k e => ?_
    rcases hL.1.2 with ⟨rfl, _⟩ | ⟨g', cap, cur, rfl, hg, _⟩
    · cases e
    · cases e; exact hg

section
variable {w : World} {B : Nat} {K : Nat → Prop} {v : Value} {xs ys : List Int}
theorem wp_append_ints {o : Oper} {a : Act} {Kc : Act → World → Prop} {Q : Exit → Act → World → Prop} (hL : Lst w B K v xs) (hlt : ∀ b, K b → b < w.heap.size) (hB : B ≤ w.heap.size) (s x : Operand)
    (ho : o.op = Op.call { callee := Callee.builtin Builtin.append, args := #[s, x], argTypes := #[35, 35] }) (hs : a.eval s = v) (ad : Addr) (m c : Nat) (hx : a.eval x = .slice (some ad) m c) (hm : ys.length = m) (hlen : xs.length + m ≤ 1000000000)
    (hc : ∀ j, j < m → w.cell? (ad.add j) = some (.int .i64 (ys.getD j 0))) (h : ∀ v' w' K', PushedS w w' B K K' v' (xs ++ ys) → Kc (a.put o.dst v') w') : o.wp Try.prog a w Kc Q := by
  obtain ⟨v', w', K', hr, hp⟩ := run_append_ints hL hlt hB ad m c hm hlen hc o.type
  unfold Oper.wp execOp
  simp only [ho, resolve, invoke, builtin, Sem.run_bind, Sem.run_pure, Result.andThen_ok, List.map_toArray, List.map_cons, List.map_nil, hs, hx, hr]
  exact h v' w' K' hp
theorem wpList_append_ints {ops : Array Oper} {rest : List Oper} {o : Oper} {a : Act} {Q : Exit → Act → World → Prop} (hL : Lst w B K v xs) (hlt : ∀ b, K b → b < w.heap.size) (hB : B ≤ w.heap.size) (hgd : o.guard = none) (s x : Operand)
    (ho : o.op = Op.call { callee := Callee.builtin Builtin.append, args := #[s, x], argTypes := #[35, 35] }) (hs : a.eval s = v) (ad : Addr) (m c : Nat) (hx : a.eval x = .slice (some ad) m c) (hm : ys.length = m) (hlen : xs.length + m ≤ 1000000000)
    (hc : ∀ j, j < m → w.cell? (ad.add j) = some (.int .i64 (ys.getD j 0))) (h : ∀ v' w' K', PushedS w w' B K K' v' (xs ++ ys) → wpList Try.prog ops Q rest (a.put o.dst v') w') : wpList Try.prog ops Q (o :: rest) a w :=
  wpList_plain hgd fun _ hK => wp_append_ints hL hlt hB s x ho hs ad m c hx hm hlen hc fun v' w' K' hp => hK _ _ (h v' w' K' hp)
theorem step_append_ints {ops : Array Oper} {o : Oper} {a : Act} {Kc : Act → World → Prop} {Q : Exit → Act → World → Prop} {E : Prop} (hL : Lst w B K v xs) (hlt : ∀ b, K b → b < w.heap.size) (hB : B ≤ w.heap.size) (hgd : o.guard = none) (s x : Operand)
    (ho : o.op = Op.call { callee := Callee.builtin Builtin.append, args := #[s, x], argTypes := #[35, 35] }) (hs : a.eval s = v) (ad : Addr) (m c : Nat) (hx : a.eval x = .slice (some ad) m c) (hm : ys.length = m) (hlen : xs.length + m ≤ 1000000000)
    (hc : ∀ j, j < m → w.cell? (ad.add j) = some (.int .i64 (ys.getD j 0))) (h : ∀ v' w' K', PushedS w w' B K K' v' (xs ++ ys) → Kc (a.put o.dst v') w') :
    if Region.wanted o (yielded ops a.tmps) = true then Oper.wp Try.prog o a w Kc Q else E := by
  have hw : Region.wanted o (yielded ops a.tmps) = true := by simp [Region.wanted, hgd]
  rw [if_pos hw]
  exact wp_append_ints hL hlt hB s x ho hs ad m c hx hm hlen hc h
end
theorem Lst.drew {w : World} {B : Nat} {K : Nat → Prop} {v : Value} {xs : List Int} (h : Lst w B K v xs) : Lst w.drew B K v xs := h
end Go.Proofs.Ytcdmebjggdhhdaa
namespace Go.Proofs.Ytcdmebjggdhhdaa
open Go.RowKit Go.Sort

/-- The value reads as the numbers xs. -/
def Ints (w : World) (v : Value) (xs : List Int) : Prop := (v = .slice none 0 0 ∧ xs = []) ∨ ∃ b off c, v = .slice (some ⟨b, off, none⟩) xs.length c ∧ b < w.heap.size ∧ xs.length ≤ c ∧ ∀ j, j < xs.length → w.cell? ⟨b, off + j, none⟩ = some (.int .i64 (xs.getD j 0))
section
variable {w w' : World} {B : Nat} {K K' : Nat → Prop} {v : Value} {xs : List Int}
theorem Ints.slice (h : Ints w v xs) : ∃ a c, v = .slice a xs.length c := by
  rcases h with ⟨rfl, rfl⟩ | ⟨b, off, c, rfl, _⟩
  · exact ⟨_, _, rfl⟩
  · exact ⟨_, _, rfl⟩
theorem Ints.below (h : Ints w v xs) (hb : Below w.heap.size w w') : Ints w' v xs := by
  rcases h with h | ⟨b, off, c, e, h1, h2, h3⟩
  · exact .inl h
  · exact .inr ⟨b, off, c, e, Nat.lt_of_lt_of_le h1 hb.size, h2, fun j hj => (hb.cell (p := ⟨b, off + j, none⟩) h1).trans (h3 j hj)⟩
theorem Lst.ints (h : Lst w B K v xs) : Ints w v xs := by
  obtain ⟨⟨h1, h2⟩, h3⟩ := h
  rcases h2 with ⟨rfl, e⟩ | ⟨g, cap, cur, rfl, hg, hh, hl, hm, hs, ht⟩
  · exact .inl ⟨rfl, List.length_eq_zero_iff.1 e⟩
  · refine .inr ⟨g, 0, cap, rfl, lt_heap hh, hl, fun j hj => ?_⟩
    rw [Nat.zero_add, cell_of_row _ _ _ _ _ _ hh, ← Array.getElem?_toList]
    have e : (cur.toList.take (xs.length * 1))[j]? = (xs.map (Value.int .i64))[j]? := by rw [ht]
    rw [List.getElem?_take, if_pos (by omega)] at e
    rw [e]
    simp [hj]
/-- What a call leaves that changes blocks of K alone. -/
structure Only (K : Nat → Prop) (w w' : World) : Prop where
  os : w'.os = w.os
  tape : w'.tape = w.tape
  output : w'.output = w.output
  size : w.heap.size ≤ w'.heap.size
  same : ∀ b, b < w.heap.size → ¬ K b → w'.heap[b]? = w.heap[b]?
theorem Only.kept (h : Only K w w') (hK : ∀ b, K' b → ¬ K b) : Kept K' w w' := ⟨h.os, h.tape, h.output, h.size, fun b hb hk => h.same b hb (hK b hk)⟩
theorem Only.below (h : Only K w w') (hK : ∀ b, K b → B ≤ b) (hB : B ≤ w.heap.size) : Below B w w' := ⟨h.os, h.tape, h.output, h.size, fun b hb => h.same b (by omega) fun e => by have := hK b e; omega⟩
theorem Lst.shrink {g cap L : Nat} (h : Lst w B K (.slice (some ⟨g, 0, none⟩) L cap) xs) {m : Nat} (hm : m ≤ xs.length) : Lst w B K (.slice (some ⟨g, 0, none⟩) m cap) (xs.take m) := by
  obtain ⟨⟨h1, h2⟩, h3⟩ := h
  rcases h2 with ⟨e, _⟩ | ⟨g', cap', cur, e, hg, hh, hl, hmx, hs, ht⟩
  · cases e
  · injection e with e1 e2 e3
    injection e1 with e1
    injection e1 with e1
    subst e1 e3
    have hlen : (xs.take m).length = m := by rw [List.length_take]; omega
    refine ⟨⟨by simp, .inr ⟨g, cap, cur, by rw [hlen], hg, hh, by omega, hmx, hs, ?_⟩⟩, fun g' e => h3 g' (by simpa [Value.ownBlock] using e)⟩
    rw [hlen, List.map_take, ← ht, List.take_take]
    congr 1
    omega
set_option maxHeartbeats 1000000 in
/-- slices.Sort over an own list. -/
theorem sort_lst (hL : Lst w B K v xs) (hlen : xs.length ≤ 1000000000) :
    Calls Try.prog 42 #[v] w fun e w' => e = .returned (.tuple #[]) ∧ Lst w' B K v (xs.mergeSort fun x y => decide (x ≤ y)) ∧ Only K w w' := by
  have hml : (xs.mergeSort fun x y => decide (x ≤ y)).length = xs.length := List.length_mergeSort xs
  by_cases h0 : xs.length = 0
  · have e0 : xs = [] := List.length_eq_zero_iff.1 h0
    obtain ⟨a, c, e⟩ := hL.slice
    subst e0
    rw [e] at hL ⊢
    refine (Try.slices_Sort_int_none a c w).mono ?_
    rintro e w' ⟨rfl, rfl⟩
    exact ⟨rfl, by simpa using hL, rfl, rfl, rfl, Nat.le_refl _, fun _ _ _ => rfl⟩
  · have hv : v ≠ .slice none 0 0 := by
      obtain ⟨⟨h1, h2⟩, h3⟩ := hL
      rcases h2 with ⟨_, e⟩ | ⟨g, cap, cur, rfl, _⟩
      · exact absurd e h0
      · intro e; cases e
    obtain ⟨g, cap, rfl, hb, hlt, hn, hm, hl, hH⟩ := Go.Lib.holds_of_ownsRow hL.1 hv
    refine (Try.slices_Sort_int g 0 cap xs w hH hlt (by omega)).mono ?_
    rintro e w' ⟨rfl, q, os, rfl⟩
    have ho := Go.Lib.ownsRow_putRow (q := q) (k := xs.length) hL.1 hml (Nat.le_refl _)
    rw [show (xs.mergeSort fun x y => decide (x ≤ y)).take xs.length = (xs.mergeSort fun x y => decide (x ≤ y)) from List.take_of_length_le (by omega)] at ho
    have ho2 := Go.Lib.ownsRow_grow ho 0 os
    refine ⟨rfl, ⟨by rw [hml]; exact ho2, hL.2⟩, rfl, rfl, rfl, ?_, fun b hb hk => ?_⟩
    · show w.heap.size ≤ (_ ++ os).size
      rw [Array.size_append]
      simp [putRow, mapBlock, Sort.ahead]
    · have hne : g ≠ b := fun e => hk (by rw [← e]; exact hL.2 g rfl)
      show (_ ++ os)[b]? = _
      rw [Array.getElem?_append_left (by simpa [putRow, mapBlock, Sort.ahead] using hb)]
      simp [putRow, mapBlock, Sort.ahead, Array.getElem?_modify, hne]
set_option maxHeartbeats 1000000 in
/-- slices.Clone of a readable list. -/
theorem clone_ints (hI : Ints w v xs) (hlen : xs.length ≤ 1000000000) :
    Calls Try.prog 41 #[v] w fun e w' => ∃ v', e = .returned v' ∧ Lst w' w.heap.size (fun b => w.heap.size ≤ b ∧ b < w'.heap.size) v' xs ∧ Below w.heap.size w w' := by
  rcases hI with ⟨rfl, rfl⟩ | ⟨b, off, c, rfl, h1, h2, h3⟩
  · refine (Try.slices_Clone_int_nil 0 0 w).mono ?_
    rintro e w' ⟨rfl, rfl⟩
    exact ⟨_, rfl, Lst.nil _ _ _, Below.refl _ _⟩
  · refine (Try.slices_Clone_int b off xs.length c xs w (Nat.le_refl _) (by omega) h3).mono ?_
    rintro e w' ⟨v', rfl, ho, hv, hb⟩
    rw [List.take_of_length_le (Nat.le_refl _)] at ho
    refine ⟨v', rfl, ⟨ho, fun g hg => ?_⟩, hb⟩
    rcases ho.2 with ⟨rfl, _⟩ | ⟨g', cap, cur, rfl, hbg, hh, _⟩
    · cases hg
    · cases hg
      exact ⟨hbg, lt_heap hh⟩
end
end Go.Proofs.Ytcdmebjggdhhdaa
namespace Go.Proofs.Ytcdmebjggdhhdaa
set_option maxRecDepth 100000
open Go.RowKit Go.Maps

theorem skeyed_int : Keyed Try.prog 3 := int_keyed Try.underlying3
theorem zero_bool (w : World) : (zeroValue 4).run Try.prog w = .ok (.bool false) w := by kernel_rfl

/-- Block b is a map that holds true at the numbers xs, each once, and nothing else. -/
def SMap (w : World) (b : Nat) (xs : List Int) : Prop :=
  ∃ D : DataW Unit, w.ownsMap Try.prog 3 (plainElem Try.prog 4) b xs.length D ∧ (∀ k, (Lit.int .i64 k).wf = true → D.atKey (.int .i64 k) (.lit (.bool false)) = .lit (.bool (decide (k ∈ xs)))) ∧ (∀ k, (Lit.int .i64 k).wf = true → has D (.int .i64 k) = decide (k ∈ xs)) ∧ size D = xs.length

theorem SMap.new (w : World) : SMap (w.alloc (.map #[] 0)) w.heap.size [] := ⟨.map [], World.ownsMap_made _ _ _ _, fun _ _ => rfl, fun _ _ => rfl, rfl⟩
theorem SMap.lt {w : World} {b : Nat} {xs : List Int} (h : SMap w b xs) : b < w.heap.size := by
  obtain ⟨D, h, _⟩ := h
  exact h.lt
theorem SMap.same {w w' : World} {b : Nat} {xs : List Int} (h : SMap w b xs) (hb : w'.heap[b]? = w.heap[b]?) : SMap w' b xs := by
  obtain ⟨D, ⟨es, clock, h1, h2⟩, h3⟩ := h
  exact ⟨D, ⟨es, clock, hb.trans h1, h2⟩, h3⟩
theorem SMap.below {w w' : World} {b : Nat} {xs : List Int} (h : SMap w b xs) (hb : Below w.heap.size w w') : SMap w' b xs := h.same (hb.block b h.lt)
/-- What is looked up. -/
theorem SMap.look {w : World} {b : Nat} {xs : List Int} (h : SMap w b xs) {k : Int} (hk : (Lit.int .i64 k).wf = true) :
    (Instr.lookup 76 (.map (some b)) (.int .i64 k) false).run Try.prog w = .ok (.bool (decide (k ∈ xs))) w := by
  obtain ⟨D, h, hat, _⟩ := h
  obtain ⟨v, ps, hrun, hv⟩ := h.lookup skeyed_int Try.underlying76 (zero_bool w) (plainElem_bool Try.underlying4 false) (keyOf_int_mk Try.underlying3 hk)
  rw [hat k hk] at hv
  unfold plainElem at hv
  rw [Try.underlying4] at hv
  cases v <;> simp at hv
  rw [hrun, hv.1]
theorem SMap.len {w : World} {b : Nat} {xs : List Int} (h : SMap w b xs) (ty : TypeId) : (Builtin.len_ #[76] ty #[.map (some b)]).run Try.prog w = .ok (.int .i64 xs.length) w := by
  obtain ⟨D, h, _, _, hs⟩ := h
  rw [← hs]
  exact h.len Try.underlying76 ty
/-- What is put in. -/
theorem wpList_smap_put {w : World} {b : Nat} {xs : List Int} (hm : SMap w b xs) (hn : xs.length ≤ 1000000000) {ops : Array Oper} {rest : List Oper} {o : Oper} {a : Act} {Q : Exit → Act → World → Prop}
    (hg : o.guard = none) (m x v : Operand) (hop : o.op = Op.mapUpdate 76 m x v) (h1 : a.eval m = .map (some b)) (k : Int) (h2 : a.eval x = .int .i64 k) (h3 : a.eval v = .bool true) (hk : (Lit.int .i64 k).wf = true) (hnew : ¬ k ∈ xs)
    (h : ∀ w', SMap w' b (k :: xs) → w.grownBy w' (some b) → wpList Try.prog ops Q rest (a.put o.dst undef) w') : wpList Try.prog ops Q (o :: rest) a w := by
  obtain ⟨D, hD, hat, hhas, hsz⟩ := hm
  refine wpList_mapUpdate_own w hg m x v 76 hop 3 4 skeyed_int Try.underlying76 (plainElem Try.prog 4) b _ D h1 hD (by unfold maxLen; omega) _ _ (.int .i64 k) h2 h3 (keyOf_int_mk Try.underlying3 hk) (.lit (.bool true)) [] (plainElem_bool Try.underlying4 true) fun w' r1 r2 => h w' ⟨_, r1, fun j hj => ?_, fun j hj => ?_, ?_⟩ r2
  · by_cases e : j = k
    · subst e
      rw [atKey_put_same hD.isMap (by trivial)]
      simp
    · rw [atKey_put_other (by intro e'; injection e' with _ e'; exact e e'), hat j hj]
      simp [e]
  · by_cases e : j = k
    · subst e
      rw [has_put_same hD.isMap (by trivial)]
      simp
    · rw [has_put_other (by intro e'; injection e' with _ e'; exact e e'), hhas j hj]
      simp [e]
  · rw [size_put (hD.tidy skeyed_int), hhas k hk, hsz]
    simp [hnew]
end Go.Proofs.Ytcdmebjggdhhdaa
namespace Go.Proofs.Ytcdmebjggdhhdaa
open Go.RowKit

/-- At the loop's head. -/
structure RS (w : World) (mb : Nat) (s : Ar) (roots : List Int) (Kt Ko : Nat → Prop) (todo out zs : List Int) (vt vo : Value) (W : World) : Prop where
  map : SMap W mb zs
  mz : ∀ x, x ∈ zs ↔ x ∈ out
  ml : zs.length = out.length
  lt : Lst W w.heap.size Kt vt todo
  lo : Lst W w.heap.size Ko vo out
  kt : ∀ b, Kt b → w.heap.size ≤ b ∧ b < W.heap.size ∧ b ≠ mb ∧ ¬ Ko b
  ko : ∀ b, Ko b → w.heap.size ≤ b ∧ b < W.heap.size ∧ b ≠ mb
  mw : w.heap.size ≤ mb
  bel : Below w.heap.size w W
  seek : Seek s roots todo out
section
variable {w W : World} {mb : Nat} {s : Ar} {roots : List Int} {Kt Ko : Nat → Prop} {todo out zs : List Int} {vt vo : Value} {h : Int}
theorem RS.skip {g T c : Nat} (r : RS w mb s roots Kt Ko (todo ++ [h]) out zs (.slice (some ⟨g, 0, none⟩) T c) vo W) (hc : s.count h = 0 ∨ h ∈ out) : RS w mb s roots Kt Ko todo out zs (.slice (some ⟨g, 0, none⟩) todo.length c) vo W := by
  have := r.lt.shrink (m := todo.length) (by simp)
  rw [List.take_left'] at this
  · exact ⟨r.map, r.mz, r.ml, this, r.lo, r.kt, r.ko, r.mw, r.bel, r.seek.skip hc⟩
  · rfl
/-- What the map's word leaves. -/
theorem RS.put {W1 : World} (r : RS w mb s roots Kt Ko (todo ++ [h]) out zs vt vo W) (hg : W.grownBy W1 (some mb)) : Lst W1 w.heap.size Kt vt (todo ++ [h]) ∧ Lst W1 w.heap.size Ko vo out ∧ Below w.heap.size w W1 := by
  have hlt := r.map.lt
  refine ⟨r.lt.kept ((Kept.refl Kt W).grown hg fun k e => by cases e; exact .inl fun e => (r.kt _ e).2.2.1 rfl), r.lo.kept ((Kept.refl Ko W).grown hg fun k e => by cases e; exact .inl fun e => (r.ko _ e).2.2 rfl), r.bel.grown hg r.bel.size fun k e => by cases e; exact r.mw⟩
theorem RS.take {W1 W2 W3 : World} {o : Obj} {Ko' Kt' : Nat → Prop} {vo' vt' : Value} (r : RS w mb s roots Kt Ko (todo ++ [h]) out zs vt vo W) (hm : SMap W1 mb (h :: zs)) (hg : W.grownBy W1 (some mb)) (ho : Pushed (W1.alloc o) W2 w.heap.size Ko Ko' vo' (out ++ [h])) (ht : PushedS W2 W3 w.heap.size Kt Kt' vt' (todo ++ (s.nd h.toNat).kids)) (hc : s.count h ≠ 0) (hn : ¬ h ∈ out) :
    RS w mb s roots Kt' Ko' (todo ++ (s.nd h.toNat).kids) (out ++ [h]) (h :: zs) vt' vo' W3 := by
  have l1 := hm.lt
  have s1 := hg.size
  have s2 := ho.size
  have s3 := ht.size
  have sa : (W1.alloc o).heap.size = W1.heap.size + 1 := by simp
  have bel1 := (r.put hg).2.2
  have belA : Below w.heap.size w (W1.alloc o) := bel1.alloc bel1.size o
  have hmA : SMap (W1.alloc o) mb (h :: zs) := hm.same (Below.heap_alloc _ _ _ l1)
  have hm2 : SMap W2 mb (h :: zs) := hmA.same (ho.same mb (by omega) fun e => (r.ko _ e).2.2 rfl)
  have hm3 : SMap W3 mb (h :: zs) := hm2.same (ht.same mb hm2.lt fun e => (r.kt _ e).2.2.1 rfl)
  have ko2 : ∀ b, Ko' b → w.heap.size ≤ b ∧ b < W2.heap.size ∧ b ≠ mb ∧ ¬ Kt b := by
    intro b hb
    obtain ⟨a, c⟩ := ho.new b hb
    rcases c with c | c
    · have := r.ko b c
      exact ⟨this.1, a, this.2.2, fun e => (r.kt b e).2.2.2 c⟩
    · refine ⟨by have := bel1.size; omega, a, by omega, fun e => ?_⟩
      have := (r.kt b e).2.1
      omega
  refine ⟨hm3, fun x => ?_, by simp [r.ml], ht.lst, ho.lst.kept ⟨?_, ?_, ?_, s3, fun b hb hk => ht.same b hb (ko2 b hk).2.2.2⟩, fun b hb => ?_, fun b hb => ?_, r.mw, (belA.trans ho.below).trans ht.below, r.seek.take hc hn⟩
  · simp only [List.mem_cons, List.mem_append, r.mz x, List.not_mem_nil, or_false]
    exact or_comm
  · exact ht.below.os
  · exact ht.below.tape
  · exact ht.below.output
  · obtain ⟨a, c⟩ := ht.new b hb
    rcases c with c | c
    · have := r.kt b c
      refine ⟨this.1, a, this.2.2.1, fun e => (ko2 b e).2.2.2 c⟩
    · refine ⟨by have := bel1.size; omega, a, by omega, fun e => ?_⟩
      have := (ko2 b e).2.1
      omega
  · have := ko2 b hb
    exact ⟨this.1, by omega, this.2.2.1⟩
theorem last_split {l : List Int} (h : l ≠ []) : ∃ i x, l = i ++ [x] := ⟨l.dropLast, l.getLast h, (List.dropLast_concat_getLast h).symm⟩
end
section
variable {K : Nat → Prop} {p : Nat} {s : Ar} {w : World} {roots : List Int} {v : Value}
set_option maxRecDepth 100000 in
set_option maxHeartbeats 8000000 in
theorem reach_is (ha : Ars w K p s) (hf : s.Fit) (hv : Ints w v roots) (hl : roots.length ≤ 100000000) :
    Calls Try.prog 16 #[.pointer (some ⟨p, 0, none⟩), v] w fun e w' => ∃ v' ys Ko, e = .returned v' ∧ Lst w' w.heap.size Ko v' ys ∧ (∀ b, Ko b → w.heap.size ≤ b ∧ b < w'.heap.size) ∧ Asc ys ∧ (∀ x, x ∈ ys ↔ Rch s roots x) ∧ Below w.heap.size w w' := by
  have Ha := Lib.hid ha
  have Hf := Lib.hid hf
  have Hv := Lib.hid hv
  have hmm := @run_makeMap Try.prog
  have hn := hf.n
  clear ha hf hv
  go_enter Try.func16, Try.ntmps16
  go_wp2_with fail
  have hb0 : Below w.heap.size w (w.alloc (.map #[] 0)) := (Below.refl _ _).alloc (Nat.le_refl _) _
  refine (clone_ints (Hv.out.below hb0) (by omega)).mono ?_
  rintro e w1 ⟨vt, rfl, hlt, hb1⟩
  have h0 : RS w w.heap.size s roots (fun b => (w.alloc (.map #[] 0)).heap.size ≤ b ∧ b < w1.heap.size) (fun _ => False) roots [] [] vt (.slice none 0 0) w1 := by
    refine ⟨((SMap.new w).same (hb1.block _ (by simp))), fun x => Iff.rfl, rfl, ⟨?_, hlt.2⟩, Lst.nil _ _ _, fun b hb => ?_, fun b hb => hb.elim, Nat.le_refl _, hb0.trans (hb1.mono (by simp)), Seek.start s roots⟩
    · obtain ⟨h1, h2⟩ := hlt.1
      refine ⟨h1, ?_⟩
      rcases h2 with h2 | ⟨g, cap, cur, rfl, hg, r⟩
      · exact .inl h2
      · exact .inr ⟨g, cap, cur, rfl, by simp at hg; omega, r⟩
    · simp only [World.size_alloc] at hb
      exact ⟨by omega, hb.2, by omega, fun e => e⟩
  have H0 := Lib.hid h0
  clear h0 hlt hb1 hb0 hmm
  go_wp2_with fail
  go_loopg [6, 7] (4 * s.n + roots.length) (fun k t o W => ∃ Kt Ko todo out zs, RS w w.heap.size s roots Kt Ko todo out zs t o W ∧ 4 * (s.n - out.length) + todo.length ≤ k ∧ k ≤ 4 * s.n + roots.length)
  case atStart => exact ⟨_, _, _, _, _, H0.out, by simp, Nat.le_refl _⟩
  case round =>
    obtain ⟨Kt, Ko, todo, out, zs, hr, hk, hk2⟩ := hrel
    clear H0
    have hol := hr.seek.len
    obtain ⟨M, hM⟩ : ∃ M, Hid (M = w.heap.size) := ⟨_, rfl⟩
    by_cases ht : todo = []
    · subst ht
      obtain ⟨a, c, rfl⟩ := hr.lt.slice
      have Hr := Lib.hid hr
      clear hr
      have H := Lib.hid (sort_lst Hr.out.lo (by omega))
      go_wp2_with fail
      refine H.out.mono ?_
      rintro e w5 ⟨rfl, hl5, ho5⟩
      go_wp2_with fail
      go_ret
      obtain ⟨q1, q2⟩ := asc_sort Hr.out.seek.nodup
      exact ⟨_, _, Ko, rfl, hl5, fun b hb => ⟨(Hr.out.ko b hb).1, Nat.lt_of_lt_of_le (Hr.out.ko b hb).2.1 ho5.size⟩, q1, fun x => (q2 x).trans (Hr.out.seek.fin x), Hr.out.bel.trans (ho5.below (fun b hb => (Hr.out.ko b hb).1) Hr.out.bel.size)⟩
    · obtain ⟨ini, h, rfl⟩ := last_split ht
      clear ht
      obtain ⟨m, hm⟩ : ∃ m, ini.length = m := ⟨_, rfl⟩
      have hlen : (ini ++ [h]).length = m + 1 := by simp [hm]
      obtain ⟨g, c, hsl, hcp, hKg, hcells⟩ := hr.lt.at_ (i := 0) (by omega)
      rw [hlen] at hsl hcp hcells
      subst hsl
      have hc0 := hcells m (by omega)
      have hgd : (ini ++ [h]).getD m 0 = h := by simp [List.getD, hm]
      rw [hgd] at hc0
      have hlk := fun hw => hr.map.look (k := h) hw
      have hmz := hr.mz h
      have Hr := Lib.hid hr
      have Hm := Lib.hid hm
      have H1 := Lib.hid (count_is h rfl (Ha.out.below hr.bel) Hf.out)
      clear hr hcells hm hgd
      have hml : m + 1 ≤ 200000000 := by rw [hlen] at hk; omega
      by_cases hz : s.count h = 0
      · have Hz := Lib.hid hz
        rw [hz] at H1
        clear hlk hmz hz
        go_wp2_with (go_at_call 39; refine H1.out.mono ?_; rintro e w' ⟨rfl, rfl⟩)
        go_roundg (gk - 1)
        case measure => omega
        case rel => exact ⟨Kt, Ko, ini, out, zs, by have := Hr.out.skip (.inl Hz.out); rwa [Hm.out] at this, by have := Hm.out; simp at hk; omega, by omega⟩
      · obtain ⟨p1, p2, p3⟩ := count_pos hz
        have wh : (Lit.int .i64 h).wf = true := WalkArith.wf_i64 (by omega)
        replace hlk := hlk wh
        clear p3
        have hz' : (s.count h == 0) = false := by simpa using hz
        have Hz := Lib.hid hz
        clear hz
        by_cases ho : h ∈ out
        · have Ho := Lib.hid ho
          rw [decide_eq_true (hmz.2 ho)] at hlk
          clear hmz ho
          go_wp2_with (go_at_call 39; refine H1.out.mono ?_; rintro e w' ⟨rfl, rfl⟩)
          go_roundg (gk - 1)
          case measure => omega
          case rel => exact ⟨Kt, Ko, ini, out, zs, by have := Hr.out.skip (.inr Ho.out); rwa [Hm.out] at this, by have := Hm.out; simp at hk; omega, by omega⟩
        · have Ho := Lib.hid ho
          have Hnz := Lib.hid (show ¬ h ∈ zs from fun e => ho (hmz.1 e))
          rw [decide_eq_false Hnz.out] at hlk
          clear hmz ho
          have Hol := Lib.hid (show zs.length ≤ 1000000000 by have := Hr.out.ml; omega)
          go_wp2_with (first | (go_at_call 39; refine H1.out.mono ?_; rintro e w' ⟨rfl, rfl⟩) | (at_mapUpdate; refine wpList_smap_put Hr.out.map Hol.out rfl _ _ _ rfl rfl h rfl rfl wh Hnz.out ?_))
          intro w4 hm4 hg4
          obtain ⟨lt4, lo4, b4⟩ := Hr.out.put hg4
          have Hm4 := Lib.hid hm4
          have Hg4 := Lib.hid hg4
          have Lt4 := Lib.hid lt4
          have B4 := Lib.hid b4
          have Lo5 := Lib.hid (lo4.kept ((Kept.refl Ko w4).alloc (.cells #[.int .i64 h] 3)))
          have Kx5 := Lib.hid (show ∀ b, Ko b → b < (w4.alloc (.cells #[.int .i64 h] 3)).heap.size from fun b hb => by have := (Hr.out.ko b hb).2.1; have := hg4.size; simp; omega)
          have Bs5 := Lib.hid (show w.heap.size ≤ (w4.alloc (.cells #[.int .i64 h] 3)).heap.size by have := b4.size; simp; omega)
          have Ln5 := Lib.hid (show out.length + 1 ≤ 1000000000 by omega)
          clear hm4 hg4 lt4 lo4 b4 hlk hc0
          go_wp2_with (at_builtin; refine wpList_append_lst Lo5.out Kx5.out Bs5.out Ln5.out rfl (.tmp 37) (.tmp 39) rfl rfl ⟨w4.heap.size, 0, none⟩ h 1 rfl (cell_new rfl rfl) ?_)
          intro vo' w6 Ko' hp
          have HP := Lib.hid hp
          clear hp
          have lts := Lt4.out.shrink (m := ini.length) (by simp)
          rw [List.take_left' rfl, Hm.out] at lts
          have Kk : Kept Kt (w4.alloc (.cells #[.int .i64 h] 3)) w6 := ⟨HP.out.below.os, HP.out.below.tape, HP.out.below.output, HP.out.size, fun b hb hk => HP.out.same b hb (Hr.out.kt b hk).2.2.2⟩
          have Lt6 := Lib.hid ((lts.kept ((Kept.refl Kt w4).alloc (.cells #[.int .i64 h] 3))).kept Kk)
          have b6 := (B4.out.alloc B4.out.size (.cells #[.int .i64 h] 3)).trans HP.out.below
          have Kx6 := Lib.hid (show ∀ b, Kt b → b < w6.heap.size from fun b hb => by have := (Hr.out.kt b hb).2.1; have := Hg4.out.size; have := HP.out.size; simp at this; omega)
          have Bs6 := Lib.hid (show w.heap.size ≤ w6.heap.size from b6.size)
          have Ln6 := Lib.hid (show ini.length + 4 ≤ 1000000000 by have := Hm.out; omega)
          have ha6 := Ha.out.below b6
          obtain ⟨N, C, U, wv, ha6⟩ := ha6
          have c0 := ha6.c0
          have n1 := ha6.node (i := h.toNat) (j := 1) (by omega) (by omega)
          have n2 := ha6.node (i := h.toNat) (j := 2) (by omega) (by omega)
          have n3 := ha6.node (i := h.toNat) (j := 3) (by omega) (by omega)
          have n4 := ha6.node (i := h.toNat) (j := 4) (by omega) (by omega)
          have Nc := Lib.hid (show ∀ j, j < 4 → w6.cell? ((⟨N, h.toNat * 7 + 1, none⟩ : Addr).add j) = some (.int .i64 ((s.nd h.toNat).kids.getD j 0)) from fun j hj => by
            rw [Addr.add_lit]
            have e : j = 0 ∨ j = 1 ∨ j = 2 ∨ j = 3 := by omega
            rcases e with rfl | rfl | rfl | rfl
            · exact n1
            · exact n2
            · exact n3
            · exact n4)
          have hin : (h : Int) < (s.n : Int) + 1 := by omega
          clear n1 n2 n3 n4 ha6 lts Kk b6
          go_wp2_with (at_builtin; refine wpList_append_ints Lt6.out Kx6.out Bs6.out rfl (.tmp 41) (.tmp 49) (by rfl) (by rfl) ⟨N, h.toNat * 7 + 1, none⟩ 4 4 (by rfl) (by rfl) Ln6.out Nc.out ?_)
          intro vt' w7 Kt' hp
          have HT := Lib.hid hp
          clear hp
          go_wp2_with fail
          go_roundg (gk - 1)
          case measure => omega
          case rel =>
            have hr2 := Hr.out.take Hm4.out Hg4.out HP.out HT.out Hz.out Ho.out
            refine ⟨Kt', Ko', _, _, _, hr2, ?_, by omega⟩
            have q1 := hr2.seek.len
            have q2 : (s.nd h.toNat).kids.length = 4 := rfl
            have q3 := Hm.out
            simp only [List.length_append, List.length_singleton] at q1 hk ⊢
            omega
end
end Go.Proofs.Ytcdmebjggdhhdaa
