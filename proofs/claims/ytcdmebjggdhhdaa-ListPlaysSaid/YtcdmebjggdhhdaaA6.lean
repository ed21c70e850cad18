/- New makes an arena of so many nodes. -/
import Derived.Test.YtcdmebjggdhhdaaA1
namespace Go.Proofs.Ytcdmebjggdhhdaa
open Go.RowKit
theorem info_node : (Try.prog.info? 64).map (fun i => (i.zero, i.size, i.bytes)) = some (some (.agg #[.int .i64 0, .int .i64 0, .int .i64 0, .int .i64 0, .int .i64 0, .int .u64 0, .int .u64 0]), 7, 56) := by kernel_rfl
theorem info_bool : (Try.prog.info? 4).map (fun i => (i.zero, i.size, i.bytes)) = some (some (.bool false), 1, 1) := by kernel_rfl

theorem made_n (n : Nat) : madeCells (Value.cells (.agg #[.int .i64 0, .int .i64 0, .int .i64 0, .int .i64 0, .int .i64 0, .int .u64 0, .int .u64 0])) ((n + 1) * 7) = nCells n fun _ => Nd.zero := by
  apply Array.ext
  · simp [madeCells, nCells]
  · intro i h1 h2
    have hm : i % 7 < 7 := Nat.mod_lt _ (by omega)
    simp only [madeCells, nCells, Array.getElem_map, Array.getElem_range, List.getElem_toArray, List.getElem_map, List.getElem_range]
    show (#[Value.int .i64 0, .int .i64 0, .int .i64 0, .int .i64 0, .int .i64 0, .int .u64 0, .int .u64 0] : Array Value)[i % 7]! = Nd.zero.cell (i % 7)
    generalize i % 7 = j at hm
    match j, hm with
    | 0, _ => rfl
    | 1, _ => rfl
    | 2, _ => rfl
    | 3, _ => rfl
    | 4, _ => rfl
    | 5, _ => rfl
    | 6, _ => rfl
theorem made_c (n : Nat) : madeCells (Value.cells (.int .i64 0)) ((n + 1) * 1) = cCells n fun _ => 0 := by
  apply Array.ext
  · simp [madeCells, cCells]
  · intro i h1 h2
    simp only [madeCells, cCells, Array.getElem_map, Array.getElem_range, List.getElem_toArray, List.getElem_map]
    show (#[Value.int .i64 0] : Array Value)[i % 1]! = .int .i64 0
    rw [Nat.mod_one]
    rfl
theorem made_u (n : Nat) : madeCells (Value.cells (.bool false)) ((n + 1) * 1) = uCells n fun _ => false := by
  apply Array.ext
  · simp [madeCells, uCells]
  · intro i h1 h2
    simp only [madeCells, uCells, Array.getElem_map, Array.getElem_range, List.getElem_toArray, List.getElem_map]
    show (#[Value.bool false] : Array Value)[i % 1]! = .bool false
    rw [Nat.mod_one]
    rfl
theorem mk_n (n : Nat) (hn : n ≤ 6000) (w : World) : (Instr.makeSlice 57 (.int .i64 ((n : Int) + 1)) (.int .i64 ((n : Int) + 1))).run Try.prog w = .ok (.slice (some ⟨w.heap.size, 0, none⟩) (n + 1) (n + 1)) (w.alloc (.cells (nCells n fun _ => Nd.zero) 64)) := by
  obtain ⟨i0, hi, hz0, hz1, hz2⟩ := info_parts info_node
  have h := run_make w 57 64 i0 _ Try.underlying57 hi hz0 .i64 .i64 ((n : Int) + 1) ((n : Int) + 1) (by omega) (by omega) (by rw [hz2]; omega) (by omega)
  rw [hz1, show ((n : Int) + 1).toNat = n + 1 by omega, made_n] at h
  exact h
theorem mk_c (n : Nat) (hn : n ≤ 6000) (w : World) : (Instr.makeSlice 35 (.int .i64 ((n : Int) + 1)) (.int .i64 ((n : Int) + 1))).run Try.prog w = .ok (.slice (some ⟨w.heap.size, 0, none⟩) (n + 1) (n + 1)) (w.alloc (.cells (cCells n fun _ => 0) 3)) := by
  obtain ⟨i0, hi, hz0, hz1, hz2⟩ := info_parts info_int
  have h := run_make w 35 3 i0 _ Try.underlying35 hi hz0 .i64 .i64 ((n : Int) + 1) ((n : Int) + 1) (by omega) (by omega) (by rw [hz2]; omega) (by omega)
  rw [hz1, show ((n : Int) + 1).toNat = n + 1 by omega, made_c] at h
  exact h
theorem mk_u (n : Nat) (hn : n ≤ 6000) (w : World) : (Instr.makeSlice 58 (.int .i64 ((n : Int) + 1)) (.int .i64 ((n : Int) + 1))).run Try.prog w = .ok (.slice (some ⟨w.heap.size, 0, none⟩) (n + 1) (n + 1)) (w.alloc (.cells (uCells n fun _ => false) 4)) := by
  obtain ⟨i0, hi, hz0, hz1, hz2⟩ := info_parts info_bool
  have h := run_make w 58 4 i0 _ Try.underlying58 hi hz0 .i64 .i64 ((n : Int) + 1) ((n : Int) + 1) (by omega) (by omega) (by rw [hz2]; omega) (by omega)
  rw [hz1, show ((n : Int) + 1).toNat = n + 1 by omega, made_u] at h
  exact h

set_option maxHeartbeats 1000000 in
theorem new_no (size : Int) (w : World) (h : size < 1 ∨ 6000 < size) :
    Calls Try.prog 7 #[.int .i64 size] w fun e w' => e = .returned (.pointer none) ∧ w = w' := by
  by_cases h1 : size < 1
  · clear h
    go_enter Try.func7, Try.ntmps7
    go_wp2
    go_ret
    exact ⟨rfl, rfl⟩
  · have h2 : 6000 < size := by omega
    clear h
    go_enter Try.func7, Try.ntmps7
    go_wp2
    go_ret
    exact ⟨rfl, rfl⟩
theorem al4_0 (w : World) (a b c d : Obj) : ((((w.alloc a).alloc b).alloc c).alloc d).drew.heap[w.heap.size]? = some a := by
  show ((((w.alloc a).alloc b).alloc c).alloc d).heap[w.heap.size]? = some a
  rw [Below.heap_alloc _ _ _ (by simp; omega), Below.heap_alloc _ _ _ (by simp; omega), Below.heap_alloc _ _ _ (by simp)]
  exact heap_alloc_new w a
theorem al4_1 (w : World) (a b c d : Obj) : ((((w.alloc a).alloc b).alloc c).alloc d).drew.heap[w.heap.size + 1]? = some b := by
  show ((((w.alloc a).alloc b).alloc c).alloc d).heap[w.heap.size + 1]? = some b
  rw [Below.heap_alloc _ _ _ (by simp), Below.heap_alloc _ _ _ (by simp)]
  have := heap_alloc_new (w.alloc a) b
  simpa using this
theorem al4_2 (w : World) (a b c d : Obj) : ((((w.alloc a).alloc b).alloc c).alloc d).drew.heap[w.heap.size + 1 + 1]? = some c := by
  show ((((w.alloc a).alloc b).alloc c).alloc d).heap[w.heap.size + 1 + 1]? = some c
  rw [Below.heap_alloc _ _ _ (by simp)]
  have := heap_alloc_new ((w.alloc a).alloc b) c
  simpa using this
theorem al4_3 (w : World) (a b c d : Obj) : ((((w.alloc a).alloc b).alloc c).alloc d).drew.heap[w.heap.size + 1 + 1 + 1]? = some d := by
  show ((((w.alloc a).alloc b).alloc c).alloc d).heap[w.heap.size + 1 + 1 + 1]? = some d
  have := heap_alloc_new (((w.alloc a).alloc b).alloc c) d
  simpa using this
theorem new_ars {w w' : World} {n p N C U : Nat} {x y z t : Obj} (hp : w'.heap[p]? = some t) (hN : w'.heap[N]? = some x) (hC : w'.heap[C]? = some y) (hU : w'.heap[U]? = some z)
    (ex : x = .cells (nCells n fun _ => Nd.zero) 64) (ey : y = .cells (cCells n fun _ => 0) 3) (ez : z = .cells (uCells n fun _ => false) 4)
    (et : t = .cells #[.slice (some ⟨N, 0, none⟩) (n + 1) (n + 1), .slice (some ⟨C, 0, none⟩) (n + 1) (n + 1), .slice (some ⟨U, 0, none⟩) (n + 1) (n + 1), .slice none 0 0, .int .i64 0, .int .i64 0] 60)
    (hs : w.heap.size ≤ w'.heap.size) (l1 : w.heap.size ≤ p) (l2 : w.heap.size ≤ N) (l3 : w.heap.size ≤ C) (l4 : w.heap.size ≤ U) (K : Nat → Prop) (hK : ∀ b, K b → b < w.heap.size) : Ars w' K p (Ar.new n) := by
  subst ex ey ez et
  exact ⟨N, C, U, _, hp, hN, hC, hU, fun h => by have := hK _ h; omega, fun h => by have := hK _ h; omega, fun h => by have := hK _ h; omega, fun h => by have := hK _ h; omega, .inl ⟨rfl, rfl⟩, fun b hb => by have := hK b hb; omega⟩
set_option maxHeartbeats 1000000 in
theorem new_yes (n : Nat) (w : World) (h1 : 1 ≤ n) (h2 : n ≤ 6000) :
    Calls Try.prog 7 #[.int .i64 n] w fun e w' => ∃ p, e = .returned (.pointer (some ⟨p, 0, none⟩)) ∧ Below w.heap.size w w' ∧ ∀ K : Nat → Prop, (∀ b, K b → b < w.heap.size) → Ars w' K p (Ar.new n) := by
  have m1 := mk_n n h2
  have m2 := mk_c n h2
  have m3 := mk_u n h2
  go_enter Try.func7, Try.ntmps7
  go_wp2
  go_region
  all_goals go_wp2
  all_goals go_ret
  all_goals refine ⟨_, rfl, (((((Below.refl _ _).alloc (Nat.le_refl _) _).alloc (by simp) _).alloc (by simp; omega) _).alloc (by simp; omega) _).drew, ?_⟩
  all_goals first
    | (with_reducible refine fun K hK => new_ars (w := w) (al4_3 w _ _ _ _) (al4_0 w _ _ _ _) (al4_1 w _ _ _ _) (al4_2 w _ _ _ _) rfl rfl rfl rfl ?_ ?_ ?_ ?_ ?_ K hK)
    | (with_reducible refine fun K hK => new_ars (w := w) (al4_3 w _ _ _ _) (al4_0 w _ _ _ _) (al4_2 w _ _ _ _) (al4_1 w _ _ _ _) rfl rfl rfl rfl ?_ ?_ ?_ ?_ ?_ K hK)
    | (with_reducible refine fun K hK => new_ars (w := w) (al4_3 w _ _ _ _) (al4_1 w _ _ _ _) (al4_0 w _ _ _ _) (al4_2 w _ _ _ _) rfl rfl rfl rfl ?_ ?_ ?_ ?_ ?_ K hK)
    | (with_reducible refine fun K hK => new_ars (w := w) (al4_3 w _ _ _ _) (al4_1 w _ _ _ _) (al4_2 w _ _ _ _) (al4_0 w _ _ _ _) rfl rfl rfl rfl ?_ ?_ ?_ ?_ ?_ K hK)
    | (with_reducible refine fun K hK => new_ars (w := w) (al4_3 w _ _ _ _) (al4_2 w _ _ _ _) (al4_0 w _ _ _ _) (al4_1 w _ _ _ _) rfl rfl rfl rfl ?_ ?_ ?_ ?_ ?_ K hK)
    | (with_reducible refine fun K hK => new_ars (w := w) (al4_3 w _ _ _ _) (al4_2 w _ _ _ _) (al4_1 w _ _ _ _) (al4_0 w _ _ _ _) rfl rfl rfl rfl ?_ ?_ ?_ ?_ ?_ K hK)
  all_goals first | omega | (simp; omega)
end Go.Proofs.Ytcdmebjggdhhdaa
