/- An own list of numbers: several numbers are appended at once, in whatever region. -/
import Derived.Test.YtcdmebjggdhhdaaLst
import Derived.Maps.AppendAt
namespace Go.Proofs.Ytcdmebjggdhhdaa
open Go.RowKit

/-- What an append of several numbers leaves. -/
structure PushedS (w w' : World) (B : Nat) (K K' : Nat → Prop) (v' : Value) (xs : List Int) : Prop where
  lst : Lst w' B K' v' xs
  more : ∀ b, K b → K' b
  new : ∀ b, K' b → b < w'.heap.size ∧ (K b ∨ w.heap.size ≤ b)
  size : w.heap.size ≤ w'.heap.size
  same : ∀ b, b < w.heap.size → ¬ K b → w'.heap[b]? = w.heap[b]?
  below : Below B w w'

theorem run_append_ints {w : World} {B : Nat} {K : Nat → Prop} {v : Value} {xs ys : List Int} (hL : Lst w B K v xs) (hlt : ∀ b, K b → b < w.heap.size) (hB : B ≤ w.heap.size) (ad : Addr) (m c : Nat) (hm : ys.length = m) (hlen : xs.length + m ≤ 1000000000)
    (hc : ∀ j, j < m → w.cell? (ad.add j) = some (.int .i64 (ys.getD j 0))) (ty : TypeId) :
    ∃ v' w' K', (Builtin.append_ #[35, 35] ty #[v, .slice (some ad) m c]).run Try.prog w = .ok v' w' ∧ PushedS w w' B K K' v' (xs ++ ys) := by
  obtain ⟨i0, hi, hz0, hz1, hz2⟩ := info_parts info_int
  have hLv := hL.1
  obtain ⟨v', w', hr, r1, r2, _, r4⟩ := run_append_own_at w B 35 ty 3 i0 (.int .i64 0) 1 8 Try.underlying35 hi hz0 hz1 hz2 rfl (by decide) v xs.length (xs.map (Value.int .i64)) hLv ad m c (ys.map (Value.int .i64)) (by simp [hm])
    (fun j u hj => by
      have hj' : j < ys.length := by have := (List.getElem?_eq_some_iff.1 hj).1; simpa using this
      rw [hc j (by omega), ← hj]
      simp [List.getD, hj'])
    (fun u hu => by
      obtain ⟨y, _, rfl⟩ := List.mem_map.1 hu
      rfl) (by unfold maxLen; omega) (by omega) hB
  have hvK : ∀ g, v.ownBlock = some g → K g := hL.2
  have hv' : ∀ g, v'.ownBlock = some g → g < w'.heap.size := by
    intro g hg
    rcases r1.2 with ⟨rfl, _⟩ | ⟨g', cap, cur, rfl, _, hh, _⟩
    · cases hg
    · cases hg; exact lt_heap hh
  refine ⟨v', w', fun b => K b ∨ v'.ownBlock = some b, hr, ⟨⟨?_, fun g hg => .inr hg⟩, fun b hb => .inl hb, fun b hb => ?_, r2.size, fun b hb hn => r2.block b hb fun e => hn (hvK b e.symm), ?_⟩⟩
  · have : (xs ++ ys).length = xs.length + m := by simp [hm]
    rw [this, List.map_append]
    exact r1
  · rcases hb with hb | hb
    · exact ⟨Nat.lt_of_lt_of_le (hlt b hb) r2.size, .inl hb⟩
    · refine ⟨hv' b hb, ?_⟩
      rcases r4 with e | e
      · rw [e] at hb; exact .inl (hvK b hb)
      · rw [e] at hb; injection hb with hb; exact .inr (by omega)
  · refine (Below.refl _ _).grown r2 hB fun k e => ?_
    rcases hL.1.2 with ⟨rfl, _⟩ | ⟨g', cap, cur, rfl, hg, _⟩
    · cases e
    · cases e; exact hg

section
variable {w : World} {B : Nat} {K : Nat → Prop} {v : Value} {xs ys : List Int}
theorem wp_append_ints {o : Oper} {a : Act} {Kc : Act → World → Prop} {Q : Exit → Act → World → Prop} (hL : Lst w B K v xs) (hlt : ∀ b, K b → b < w.heap.size) (hB : B ≤ w.heap.size) (s x : Operand)
    (ho : o.op = Op.call { callee := Callee.builtin Builtin.append, args := #[s, x], argTypes := #[35, 35] }) (hs : a.eval s = v) (ad : Addr) (m c : Nat) (hx : a.eval x = .slice (some ad) m c) (hm : ys.length = m) (hlen : xs.length + m ≤ 1000000000)
    (hc : ∀ j, j < m → w.cell? (ad.add j) = some (.int .i64 (ys.getD j 0))) (h : ∀ v' w' K', PushedS w w' B K K' v' (xs ++ ys) → Kc (a.put o.dst v') w') : o.wp Try.prog a w Kc Q := by
  obtain ⟨v', w', K', hr, hp⟩ := run_append_ints hL hlt hB ad m c hm hlen hc o.type
  unfold Oper.wp execOp
  simp only [ho, resolve, invoke, builtin, Sem.run_bind, Sem.run_pure, Result.andThen_ok, List.map_toArray, List.map_cons, List.map_nil, hs, hx, hr]
  exact h v' w' K' hp
theorem wpList_append_ints {ops : Array Oper} {rest : List Oper} {o : Oper} {a : Act} {Q : Exit → Act → World → Prop} (hL : Lst w B K v xs) (hlt : ∀ b, K b → b < w.heap.size) (hB : B ≤ w.heap.size) (hgd : o.guard = none) (s x : Operand)
    (ho : o.op = Op.call { callee := Callee.builtin Builtin.append, args := #[s, x], argTypes := #[35, 35] }) (hs : a.eval s = v) (ad : Addr) (m c : Nat) (hx : a.eval x = .slice (some ad) m c) (hm : ys.length = m) (hlen : xs.length + m ≤ 1000000000)
    (hc : ∀ j, j < m → w.cell? (ad.add j) = some (.int .i64 (ys.getD j 0))) (h : ∀ v' w' K', PushedS w w' B K K' v' (xs ++ ys) → wpList Try.prog ops Q rest (a.put o.dst v') w') : wpList Try.prog ops Q (o :: rest) a w :=
  wpList_plain hgd fun _ hK => wp_append_ints hL hlt hB s x ho hs ad m c hx hm hlen hc fun v' w' K' hp => hK _ _ (h v' w' K' hp)
theorem step_append_ints {ops : Array Oper} {o : Oper} {a : Act} {Kc : Act → World → Prop} {Q : Exit → Act → World → Prop} {E : Prop} (hL : Lst w B K v xs) (hlt : ∀ b, K b → b < w.heap.size) (hB : B ≤ w.heap.size) (hgd : o.guard = none) (s x : Operand)
    (ho : o.op = Op.call { callee := Callee.builtin Builtin.append, args := #[s, x], argTypes := #[35, 35] }) (hs : a.eval s = v) (ad : Addr) (m c : Nat) (hx : a.eval x = .slice (some ad) m c) (hm : ys.length = m) (hlen : xs.length + m ≤ 1000000000)
    (hc : ∀ j, j < m → w.cell? (ad.add j) = some (.int .i64 (ys.getD j 0))) (h : ∀ v' w' K', PushedS w w' B K K' v' (xs ++ ys) → Kc (a.put o.dst v') w') :
    if Region.wanted o (yielded ops a.tmps) = true then Oper.wp Try.prog o a w Kc Q else E := by
  have hw : Region.wanted o (yielded ops a.tmps) = true := by simp [Region.wanted, hgd]
  rw [if_pos hw]
  exact wp_append_ints hL hlt hB s x ho hs ad m c hx hm hlen hc h
end
theorem Lst.drew {w : World} {B : Nat} {K : Nat → Prop} {v : Value} {xs : List Int} (h : Lst w B K v xs) : Lst w.drew B K v xs := h
end Go.Proofs.Ytcdmebjggdhhdaa
