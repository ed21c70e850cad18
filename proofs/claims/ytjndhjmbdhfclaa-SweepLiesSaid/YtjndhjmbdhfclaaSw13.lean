/- An append to a list, in place or not, leaves the old numbers where they lay. -/
import Derived.Test.YtjndhjmbdhfclaaSw12
namespace Go.Proofs.Ytjndhjmbdhfclaa
set_option maxRecDepth 100000
open Go.RowKit
theorem run_append_keep {w : World} {B : Nat} {K : Nat → Prop} {g n cap : Nat} {xs ys : List Int} (hn : xs.length = n) (hL : Lst w B K (.slice (some ⟨g, 0, none⟩) n cap) xs) (hlt : ∀ b, K b → b < w.heap.size) (hB : B ≤ w.heap.size) (ad : Addr) (m c : Nat) (hm : ys.length = m) (hlen : xs.length + m ≤ 1000000000)
    (hc : ∀ j, j < m → w.cell? (ad.add j) = some (.int .i64 (ys.getD j 0))) (ty : TypeId) :
    ∃ v' w' K', (Builtin.append_ #[33, 33] ty #[.slice (some ⟨g, 0, none⟩) n cap, .slice (some ad) m c]).run Try.prog w = .ok v' w' ∧ PushedS w w' B K K' v' (xs ++ ys) ∧ ∀ j, j < n → w'.cell? ⟨g, j, none⟩ = some (.int .i64 (xs.getD j 0)) := by
  obtain ⟨v', w', K', hr, hp⟩ := run_append_ints hL hlt hB ad m c hm hlen hc ty
  refine ⟨v', w', K', hr, hp, fun j hj => ?_⟩
  obtain ⟨i0, hi, hz0, hz1, hz2⟩ := info_parts info_int
  have hcold := (hL.at_ (i := j) (by omega))
  obtain ⟨g1, c1, e1, _, _, hcells⟩ := hcold
  have hgg : g = g1 := by injection e1 with e1; injection e1 with e1; injection e1
  subst hgg
  have hold := hcells j (by omega)
  have hnews : ∀ j u, (ys.map (Value.int .i64))[j]? = some u → w.cell? (ad.add j) = some u := fun j u hj => by
    have hj' : j < ys.length := by have := (List.getElem?_eq_some_iff.1 hj).1; simpa using this
    rw [hc j (by omega), ← hj]
    simp [List.getD, hj']
  obtain ⟨⟨h1, h2⟩, h3⟩ := hL
  rcases h2 with ⟨e, _⟩ | ⟨g', cap', cur, e, hbg, hg, hnc, hcm, hcs, htake⟩
  · cases e
  · injection e with e1 e2 e3
    injection e1 with e1
    injection e1 with e1
    subst e1 e2 e3
    by_cases hroom : xs.length + m ≤ cap
    · have hfit : xs.length * i0.size + (ys.map (Value.int .i64)).length ≤ cur.size := by rw [List.length_map, hm, hz1, hcs]; omega
      have hr2 := run_append_room (P := Try.prog) w 33 ty 3 i0 Try.underlying33 hi g xs.length cap cur hg ad m c (ys.map (Value.int .i64)) (by rw [List.length_map, hm, hz1]; omega) hnews (fun u hu => by
        obtain ⟨y, _, rfl⟩ := List.mem_map.1 hu
        rfl) hroom hfit
      rw [hr] at hr2
      injection hr2 with ev ew
      obtain ⟨g2, c2, e2, _, _, hcells2⟩ := hp.lst.at_ (i := j) (by rw [List.length_append]; omega)
      rw [ev] at e2
      have : g = g2 := by injection e2 with e2; injection e2 with e2; injection e2
      subst this
      rw [hcells2 j (by rw [List.length_append]; omega)]
      simp [List.getD, List.getElem?_append_left hj]
    · have holds : ∀ j u, (xs.map (Value.int .i64))[j]? = some u → w.cell? ((⟨g, 0, none⟩ : Addr).add j) = some u := fun j u hj => by
        have hj' : j < xs.length := by have := (List.getElem?_eq_some_iff.1 hj).1; simpa using this
        rw [Addr.add_lit, Nat.zero_add, hcells j hj', ← hj]
        simp [List.getD, hj']
      have hr2 := run_append_grow (P := Try.prog) w 33 ty 3 i0 (.int .i64 0) Try.underlying33 hi hz0 ⟨g, 0, none⟩ xs.length cap (xs.map (Value.int .i64)) (by rw [List.length_map, hz1]; omega) holds ad m c (ys.map (Value.int .i64)) (by rw [List.length_map, hm, hz1]; omega) hnews (by omega) (by omega) (growslice_fits (by omega) (by rw [hz2]; omega))
      rw [hr] at hr2
      injection hr2 with ev ew
      have hb : w'.heap[g]? = w.heap[g]? := by rw [ew]; exact Below.heap_alloc w.drew _ g (lt_heap hg)
      exact (World.cell?_of_block hb).trans hold
theorem step_append_keep {w : World} {B : Nat} {K : Nat → Prop} {g n cap : Nat} {xs ys : List Int} {ops : Array Oper} {o : Oper} {a : Act} {Kc : Act → World → Prop} {Q : Exit → Act → World → Prop} {E : Prop} (hw : Region.wanted o (yielded ops a.tmps) = true) (hn : xs.length = n) (hL : Lst w B K (.slice (some ⟨g, 0, none⟩) n cap) xs) (hlt : ∀ b, K b → b < w.heap.size) (hB : B ≤ w.heap.size) (s x : Operand)
    (ho : o.op = Op.call { callee := Callee.builtin Builtin.append, args := #[s, x], argTypes := #[33, 33] }) (hs : a.eval s = .slice (some ⟨g, 0, none⟩) n cap) (ad : Addr) (m c : Nat) (hx : a.eval x = .slice (some ad) m c) (hm : ys.length = m) (hlen : xs.length + m ≤ 1000000000)
    (hc : ∀ j, j < m → w.cell? (ad.add j) = some (.int .i64 (ys.getD j 0))) (h : ∀ v' w' K', PushedS w w' B K K' v' (xs ++ ys) → (∀ j, j < n → w'.cell? ⟨g, j, none⟩ = some (.int .i64 (xs.getD j 0))) → Kc (a.put o.dst v') w') :
    if Region.wanted o (yielded ops a.tmps) = true then Oper.wp Try.prog o a w Kc Q else E := by
  rw [if_pos hw]
  obtain ⟨v', w', K', hr, hp, hk⟩ := run_append_keep hn hL hlt hB ad m c hm hlen hc o.type
  unfold Oper.wp execOp
  simp only [ho, resolve, invoke, builtin, Sem.run_bind, Sem.run_pure, Result.andThen_ok, List.map_toArray, List.map_cons, List.map_nil, hs, hx, hr]
  exact h v' w' K' hp hk
end Go.Proofs.Ytjndhjmbdhfclaa
