/- A tree of package bits that makes nodes: a leaf's bits are poured into a row. -/
import Derived.Test.YtjfeocoengheaaaBw20
import Derived.Test.YtjfeocoengheaaaDag
namespace Go.Proofs.Ytjfeocoengheaaa
set_option maxRecDepth 100000
open Go.RowKit

section
variable {q p : Nat}
/-- Two leaves, each in a block of its own. -/
structure TwoL (w : World) (a b : List Bool) (b1 b2 : Nat) (W : World) : Prop where
  below : Below w.heap.size w W
  ba : W.heap[b1]? = some (.cells #[.int .u64 (bN a), .int .i64 a.length] 66 (0, 0))
  bb : W.heap[b2]? = some (.cells #[.int .u64 (bN b), .int .i64 b.length] 66 (0, 0))
  g1 : w.heap.size ≤ b1
  g2 : w.heap.size ≤ b2
  ne : b1 ≠ b2
theorem blk {W W' : World} {b : Nat} {o : Obj} (k : Below W.heap.size W W') (h : W.heap[b]? = some o) : W'.heap[b]? = some o := (k.block b (lt_heap h)).trans h
theorem blk1 (W : World) (o : Obj) : (W.drew.alloc o).heap[W.heap.size]? = some o := heap_alloc_new W.drew o
theorem blk1' (W : World) (o : Obj) : (W.alloc o).heap[W.heap.size]? = some o := heap_alloc_new W o
theorem blk2 (W : World) (o o' : Obj) : ((W.drew.alloc o).alloc o').heap[W.heap.size]? = some o := (Below.heap_alloc _ _ _ (by simp)).trans (heap_alloc_new W.drew o)
theorem blk2' (W : World) (o o' : Obj) : ((W.alloc o).alloc o').heap[W.heap.size]? = some o := (Below.heap_alloc _ _ _ (by simp)).trans (heap_alloc_new W o)
theorem blk2s (W : World) (o o' : Obj) : ((W.drew.alloc o).alloc o').heap[W.heap.size + 1]? = some o' := al2_1 W.drew o o'
theorem blk2s' (W : World) (o o' : Obj) : ((W.alloc o).alloc o').heap[W.heap.size + 1]? = some o' := al2_1 W o o'
theorem cells_two {W : World} {b : Nat} {x y : Value} {ty : TypeId} (h : W.heap[b]? = some (.cells #[x, y] ty (0, 0))) : (W.cell? ⟨b, 0, none⟩ = some x ∧ W.cell? ⟨b, 1, none⟩ = some y ∧ ∀ j, W.frozen? ⟨b, j, none⟩ = false) ∧
    ((∀ o, (W.alloc o).cell? ⟨b, 0, none⟩ = some x) ∧ (∀ o, (W.alloc o).cell? ⟨b, 1, none⟩ = some y) ∧ ∀ o j, (W.alloc o).frozen? ⟨b, j, none⟩ = false) ∧ b ≠ W.heap.size ∧ W.heap.size ≠ b := by
  have l := lt_heap h
  have ha : ∀ o, (W.alloc o).heap[b]? = some (.cells #[x, y] ty (0, 0)) := fun o => (Below.heap_alloc _ _ _ l).trans h
  exact ⟨⟨cell_of_row _ _ _ _ _ _ h, cell_of_row _ _ _ _ _ _ h, fun _ => frozen_of_row _ _ _ _ _ h⟩, ⟨fun o => cell_of_row _ _ _ _ _ _ (ha o), fun o => cell_of_row _ _ _ _ _ _ (ha o), fun o _ => frozen_of_row _ _ _ _ _ (ha o)⟩, by omega, by omega⟩
theorem wpOp_of {P : Program} {ops : Array Oper} {Q : Exit → Act → World → Prop} {i : Nat} {o : Oper} {K : Act → World → Prop} {a : Act} {w : World} (ho : ops[i]? = some o) (hw : Region.wanted o (yielded ops a.tmps) = true) (h : o.wp P a w K Q) : wpOp P ops Q i K a w := by
  unfold wpOp
  simp only [ho, hw, if_true]
  exact .inl h
theorem two_end {w3 W : World} {l z : List Bool} {g4 g5 : Nat} {x y u v : Value} (hb : Below w3.heap.size w3 W) (h4 : W.heap[g4]? = some (.cells #[x, y] 66 (0, 0))) (h5 : W.heap[g5]? = some (.cells #[u, v] 66 (0, 0))) (ne : g4 ≠ g5) (l4 : w3.heap.size ≤ g4) (l5 : w3.heap.size ≤ g5) :
    TwoL w3 l z g4 g5 ((((W.setCell ⟨g4, 0, none⟩ (.int .u64 (bN l))).setCell ⟨g4, 1, none⟩ (.int .i64 l.length)).setCell ⟨g5, 0, none⟩ (.int .u64 (bN z))).setCell ⟨g5, 1, none⟩ (.int .i64 z.length)) := by
  refine ⟨(((hb.setCell (p := ⟨g4, 0, none⟩) l4 _).setCell (p := ⟨g4, 1, none⟩) l4 _).setCell (p := ⟨g5, 0, none⟩) l5 _).setCell (p := ⟨g5, 1, none⟩) l5 _, ?_, ?_, l4, l5, ne⟩
  · rw [heap_setCell_other _ _ _ _ ne, heap_setCell_other _ _ _ _ ne, heap_setCell_same _ _ _ _ _ _ (heap_setCell_same _ _ _ _ _ _ h4)]; rfl
  · have h5' : ((W.setCell ⟨g4, 0, none⟩ (.int .u64 (bN l))).setCell ⟨g4, 1, none⟩ (.int .i64 l.length)).heap[g5]? = some (.cells #[u, v] 66 (0, 0)) := by
      rw [heap_setCell_other _ _ _ _ ne.symm, heap_setCell_other _ _ _ _ ne.symm]; exact h5
    rw [heap_setCell_same _ _ _ _ _ _ (heap_setCell_same _ _ _ _ _ _ h5')]; rfl
theorem lt_cell {W : World} {b i : Nat} {v : Value} (h : W.cell? ⟨b, i, none⟩ = some v) : b < W.heap.size := block_lt_of_cell h
theorem boxes_cells {W : World} {b9 b11 : Nat} {l z : List Bool} (h9 : W.heap[b9]? = some (.cells #[.int .i64 1, .int .i64 0, .int .i64 0, .int .i64 0, .int .i64 0, .int .u64 (bN z), .int .u64 z.length] 44 (0, 0))) (h11 : W.heap[b11]? = some (.cells #[.int .i64 1, .int .i64 0, .int .i64 0, .int .i64 0, .int .i64 0, .int .u64 (bN l), .int .u64 l.length] 44 (0, 0))) :
    W.cell? ⟨b9, 0, none⟩ = some (.int .i64 1) ∧ W.cell? ⟨b9, 1, none⟩ = some (.int .i64 0) ∧ W.cell? ⟨b9, 2, none⟩ = some (.int .i64 0) ∧ W.cell? ⟨b9, 3, none⟩ = some (.int .i64 0) ∧ W.cell? ⟨b9, 4, none⟩ = some (.int .i64 0) ∧ W.cell? ⟨b9, 5, none⟩ = some (.int .u64 (bN z)) ∧ W.cell? ⟨b9, 6, none⟩ = some (.int .u64 z.length) ∧ W.cell? ⟨b11, 0, none⟩ = some (.int .i64 1) ∧ W.cell? ⟨b11, 1, none⟩ = some (.int .i64 0) ∧ W.cell? ⟨b11, 2, none⟩ = some (.int .i64 0) ∧ W.cell? ⟨b11, 3, none⟩ = some (.int .i64 0) ∧ W.cell? ⟨b11, 4, none⟩ = some (.int .i64 0) ∧ W.cell? ⟨b11, 5, none⟩ = some (.int .u64 (bN l)) ∧ W.cell? ⟨b11, 6, none⟩ = some (.int .u64 l.length) :=
  ⟨cell_of_row _ _ _ _ _ _ h9, cell_of_row _ _ _ _ _ _ h9, cell_of_row _ _ _ _ _ _ h9, cell_of_row _ _ _ _ _ _ h9, cell_of_row _ _ _ _ _ _ h9, cell_of_row _ _ _ _ _ _ h9, cell_of_row _ _ _ _ _ _ h9, cell_of_row _ _ _ _ _ _ h11, cell_of_row _ _ _ _ _ _ h11, cell_of_row _ _ _ _ _ _ h11, cell_of_row _ _ _ _ _ _ h11, cell_of_row _ _ _ _ _ _ h11, cell_of_row _ _ _ _ _ _ h11, cell_of_row _ _ _ _ _ _ h11⟩
theorem boxes_keep {W W' : World} {b9 b11 : Nat} {l z : List Bool} (hb : Below W.heap.size W W') (h : W.cell? ⟨b9, 0, none⟩ = some (.int .i64 1) ∧ W.cell? ⟨b9, 1, none⟩ = some (.int .i64 0) ∧ W.cell? ⟨b9, 2, none⟩ = some (.int .i64 0) ∧ W.cell? ⟨b9, 3, none⟩ = some (.int .i64 0) ∧ W.cell? ⟨b9, 4, none⟩ = some (.int .i64 0) ∧ W.cell? ⟨b9, 5, none⟩ = some (.int .u64 (bN z)) ∧ W.cell? ⟨b9, 6, none⟩ = some (.int .u64 z.length) ∧ W.cell? ⟨b11, 0, none⟩ = some (.int .i64 1) ∧ W.cell? ⟨b11, 1, none⟩ = some (.int .i64 0) ∧ W.cell? ⟨b11, 2, none⟩ = some (.int .i64 0) ∧ W.cell? ⟨b11, 3, none⟩ = some (.int .i64 0) ∧ W.cell? ⟨b11, 4, none⟩ = some (.int .i64 0) ∧ W.cell? ⟨b11, 5, none⟩ = some (.int .u64 (bN l)) ∧ W.cell? ⟨b11, 6, none⟩ = some (.int .u64 l.length)) :
    W'.cell? ⟨b9, 0, none⟩ = some (.int .i64 1) ∧ W'.cell? ⟨b9, 1, none⟩ = some (.int .i64 0) ∧ W'.cell? ⟨b9, 2, none⟩ = some (.int .i64 0) ∧ W'.cell? ⟨b9, 3, none⟩ = some (.int .i64 0) ∧ W'.cell? ⟨b9, 4, none⟩ = some (.int .i64 0) ∧ W'.cell? ⟨b9, 5, none⟩ = some (.int .u64 (bN z)) ∧ W'.cell? ⟨b9, 6, none⟩ = some (.int .u64 z.length) ∧ W'.cell? ⟨b11, 0, none⟩ = some (.int .i64 1) ∧ W'.cell? ⟨b11, 1, none⟩ = some (.int .i64 0) ∧ W'.cell? ⟨b11, 2, none⟩ = some (.int .i64 0) ∧ W'.cell? ⟨b11, 3, none⟩ = some (.int .i64 0) ∧ W'.cell? ⟨b11, 4, none⟩ = some (.int .i64 0) ∧ W'.cell? ⟨b11, 5, none⟩ = some (.int .u64 (bN l)) ∧ W'.cell? ⟨b11, 6, none⟩ = some (.int .u64 l.length) := by
  obtain ⟨a0, a1, a2, a3, a4, a5, a6, c0, c1, c2, c3, c4, c5, c6⟩ := h
  have l9 := lt_cell a0
  have l11 := lt_cell c0
  exact ⟨(hb.cell (p := ⟨b9, 0, none⟩) l9).trans a0, (hb.cell (p := ⟨b9, 1, none⟩) l9).trans a1, (hb.cell (p := ⟨b9, 2, none⟩) l9).trans a2, (hb.cell (p := ⟨b9, 3, none⟩) l9).trans a3, (hb.cell (p := ⟨b9, 4, none⟩) l9).trans a4, (hb.cell (p := ⟨b9, 5, none⟩) l9).trans a5, (hb.cell (p := ⟨b9, 6, none⟩) l9).trans a6, (hb.cell (p := ⟨b11, 0, none⟩) l11).trans c0, (hb.cell (p := ⟨b11, 1, none⟩) l11).trans c1, (hb.cell (p := ⟨b11, 2, none⟩) l11).trans c2, (hb.cell (p := ⟨b11, 3, none⟩) l11).trans c3, (hb.cell (p := ⟨b11, 4, none⟩) l11).trans c4, (hb.cell (p := ⟨b11, 5, none⟩) l11).trans c5, (hb.cell (p := ⟨b11, 6, none⟩) l11).trans c6⟩
theorem boxes_ne {W : World} {b9 b11 : Nat} {l z : List Bool} (h : W.cell? ⟨b9, 0, none⟩ = some (.int .i64 1) ∧ W.cell? ⟨b9, 1, none⟩ = some (.int .i64 0) ∧ W.cell? ⟨b9, 2, none⟩ = some (.int .i64 0) ∧ W.cell? ⟨b9, 3, none⟩ = some (.int .i64 0) ∧ W.cell? ⟨b9, 4, none⟩ = some (.int .i64 0) ∧ W.cell? ⟨b9, 5, none⟩ = some (.int .u64 (bN z)) ∧ W.cell? ⟨b9, 6, none⟩ = some (.int .u64 z.length) ∧ W.cell? ⟨b11, 0, none⟩ = some (.int .i64 1) ∧ W.cell? ⟨b11, 1, none⟩ = some (.int .i64 0) ∧ W.cell? ⟨b11, 2, none⟩ = some (.int .i64 0) ∧ W.cell? ⟨b11, 3, none⟩ = some (.int .i64 0) ∧ W.cell? ⟨b11, 4, none⟩ = some (.int .i64 0) ∧ W.cell? ⟨b11, 5, none⟩ = some (.int .u64 (bN l)) ∧ W.cell? ⟨b11, 6, none⟩ = some (.int .u64 l.length)) :
    ((b9 ≠ W.heap.size ∧ b11 ≠ W.heap.size) ∧ (W.heap.size ≠ b9 ∧ W.heap.size ≠ b11)) ∧ (b9 ≠ W.heap.size + 1 ∧ b11 ≠ W.heap.size + 1) ∧ (W.heap.size + 1 ≠ b9 ∧ W.heap.size + 1 ≠ b11) := by
  have l9 := lt_cell h.1
  have l11 := lt_cell h.2.2.2.2.2.2.2.1
  omega
theorem boxes_set {W : World} {b9 b11 g : Nat} {l z : List Bool} (h : W.cell? ⟨b9, 0, none⟩ = some (.int .i64 1) ∧ W.cell? ⟨b9, 1, none⟩ = some (.int .i64 0) ∧ W.cell? ⟨b9, 2, none⟩ = some (.int .i64 0) ∧ W.cell? ⟨b9, 3, none⟩ = some (.int .i64 0) ∧ W.cell? ⟨b9, 4, none⟩ = some (.int .i64 0) ∧ W.cell? ⟨b9, 5, none⟩ = some (.int .u64 (bN z)) ∧ W.cell? ⟨b9, 6, none⟩ = some (.int .u64 z.length) ∧ W.cell? ⟨b11, 0, none⟩ = some (.int .i64 1) ∧ W.cell? ⟨b11, 1, none⟩ = some (.int .i64 0) ∧ W.cell? ⟨b11, 2, none⟩ = some (.int .i64 0) ∧ W.cell? ⟨b11, 3, none⟩ = some (.int .i64 0) ∧ W.cell? ⟨b11, 4, none⟩ = some (.int .i64 0) ∧ W.cell? ⟨b11, 5, none⟩ = some (.int .u64 (bN l)) ∧ W.cell? ⟨b11, 6, none⟩ = some (.int .u64 l.length)) (n9 : b9 ≠ g) (n11 : b11 ≠ g) (x y : Value) :
    ((W.setCell ⟨g, 0, none⟩ x).setCell ⟨g, 1, none⟩ y).cell? ⟨b9, 0, none⟩ = some (.int .i64 1) ∧ ((W.setCell ⟨g, 0, none⟩ x).setCell ⟨g, 1, none⟩ y).cell? ⟨b9, 1, none⟩ = some (.int .i64 0) ∧ ((W.setCell ⟨g, 0, none⟩ x).setCell ⟨g, 1, none⟩ y).cell? ⟨b9, 2, none⟩ = some (.int .i64 0) ∧ ((W.setCell ⟨g, 0, none⟩ x).setCell ⟨g, 1, none⟩ y).cell? ⟨b9, 3, none⟩ = some (.int .i64 0) ∧ ((W.setCell ⟨g, 0, none⟩ x).setCell ⟨g, 1, none⟩ y).cell? ⟨b9, 4, none⟩ = some (.int .i64 0) ∧ ((W.setCell ⟨g, 0, none⟩ x).setCell ⟨g, 1, none⟩ y).cell? ⟨b9, 5, none⟩ = some (.int .u64 (bN z)) ∧ ((W.setCell ⟨g, 0, none⟩ x).setCell ⟨g, 1, none⟩ y).cell? ⟨b9, 6, none⟩ = some (.int .u64 z.length) ∧ ((W.setCell ⟨g, 0, none⟩ x).setCell ⟨g, 1, none⟩ y).cell? ⟨b11, 0, none⟩ = some (.int .i64 1) ∧ ((W.setCell ⟨g, 0, none⟩ x).setCell ⟨g, 1, none⟩ y).cell? ⟨b11, 1, none⟩ = some (.int .i64 0) ∧ ((W.setCell ⟨g, 0, none⟩ x).setCell ⟨g, 1, none⟩ y).cell? ⟨b11, 2, none⟩ = some (.int .i64 0) ∧ ((W.setCell ⟨g, 0, none⟩ x).setCell ⟨g, 1, none⟩ y).cell? ⟨b11, 3, none⟩ = some (.int .i64 0) ∧ ((W.setCell ⟨g, 0, none⟩ x).setCell ⟨g, 1, none⟩ y).cell? ⟨b11, 4, none⟩ = some (.int .i64 0) ∧ ((W.setCell ⟨g, 0, none⟩ x).setCell ⟨g, 1, none⟩ y).cell? ⟨b11, 5, none⟩ = some (.int .u64 (bN l)) ∧ ((W.setCell ⟨g, 0, none⟩ x).setCell ⟨g, 1, none⟩ y).cell? ⟨b11, 6, none⟩ = some (.int .u64 l.length) := by
  obtain ⟨a0, a1, a2, a3, a4, a5, a6, c0, c1, c2, c3, c4, c5, c6⟩ := h
  have e9 : ((W.setCell ⟨g, 0, none⟩ x).setCell ⟨g, 1, none⟩ y).heap[b9]? = W.heap[b9]? := (heap_setCell_other _ _ _ _ n9).trans (heap_setCell_other _ _ _ _ n9)
  have e11 : ((W.setCell ⟨g, 0, none⟩ x).setCell ⟨g, 1, none⟩ y).heap[b11]? = W.heap[b11]? := (heap_setCell_other _ _ _ _ n11).trans (heap_setCell_other _ _ _ _ n11)
  exact ⟨(World.cell?_of_block e9).trans a0, (World.cell?_of_block e9).trans a1, (World.cell?_of_block e9).trans a2, (World.cell?_of_block e9).trans a3, (World.cell?_of_block e9).trans a4, (World.cell?_of_block e9).trans a5, (World.cell?_of_block e9).trans a6, (World.cell?_of_block e11).trans c0, (World.cell?_of_block e11).trans c1, (World.cell?_of_block e11).trans c2, (World.cell?_of_block e11).trans c3, (World.cell?_of_block e11).trans c4, (World.cell?_of_block e11).trans c5, (World.cell?_of_block e11).trans c6⟩
theorem boxes_alloc {W : World} {b9 b11 : Nat} {l z : List Bool} (h : W.cell? ⟨b9, 0, none⟩ = some (.int .i64 1) ∧ W.cell? ⟨b9, 1, none⟩ = some (.int .i64 0) ∧ W.cell? ⟨b9, 2, none⟩ = some (.int .i64 0) ∧ W.cell? ⟨b9, 3, none⟩ = some (.int .i64 0) ∧ W.cell? ⟨b9, 4, none⟩ = some (.int .i64 0) ∧ W.cell? ⟨b9, 5, none⟩ = some (.int .u64 (bN z)) ∧ W.cell? ⟨b9, 6, none⟩ = some (.int .u64 z.length) ∧ W.cell? ⟨b11, 0, none⟩ = some (.int .i64 1) ∧ W.cell? ⟨b11, 1, none⟩ = some (.int .i64 0) ∧ W.cell? ⟨b11, 2, none⟩ = some (.int .i64 0) ∧ W.cell? ⟨b11, 3, none⟩ = some (.int .i64 0) ∧ W.cell? ⟨b11, 4, none⟩ = some (.int .i64 0) ∧ W.cell? ⟨b11, 5, none⟩ = some (.int .u64 (bN l)) ∧ W.cell? ⟨b11, 6, none⟩ = some (.int .u64 l.length)) (o : Obj) :
    (W.alloc o).cell? ⟨b9, 0, none⟩ = some (.int .i64 1) ∧ (W.alloc o).cell? ⟨b9, 1, none⟩ = some (.int .i64 0) ∧ (W.alloc o).cell? ⟨b9, 2, none⟩ = some (.int .i64 0) ∧ (W.alloc o).cell? ⟨b9, 3, none⟩ = some (.int .i64 0) ∧ (W.alloc o).cell? ⟨b9, 4, none⟩ = some (.int .i64 0) ∧ (W.alloc o).cell? ⟨b9, 5, none⟩ = some (.int .u64 (bN z)) ∧ (W.alloc o).cell? ⟨b9, 6, none⟩ = some (.int .u64 z.length) ∧ (W.alloc o).cell? ⟨b11, 0, none⟩ = some (.int .i64 1) ∧ (W.alloc o).cell? ⟨b11, 1, none⟩ = some (.int .i64 0) ∧ (W.alloc o).cell? ⟨b11, 2, none⟩ = some (.int .i64 0) ∧ (W.alloc o).cell? ⟨b11, 3, none⟩ = some (.int .i64 0) ∧ (W.alloc o).cell? ⟨b11, 4, none⟩ = some (.int .i64 0) ∧ (W.alloc o).cell? ⟨b11, 5, none⟩ = some (.int .u64 (bN l)) ∧ (W.alloc o).cell? ⟨b11, 6, none⟩ = some (.int .u64 l.length) := boxes_keep ((Below.refl _ _).alloc (Nat.le_refl _) o) h
set_option maxRecDepth 100000 in
set_option maxHeartbeats 16000000 in
theorem bpour_call {ahead : Bool} {s s' : Ar} {e e' h sm r : Int} (hp : Pour ahead s e h sm s' e' r) : ∀ (K : Nat → Prop) (w : World), BTre w K q p s e →
    Calls Try.prog 69 #[.pointer (some ⟨q, 0, none⟩), .int .i64 h, .int .i64 sm, .bool ahead] w fun o w' => o = .returned (.int .i64 r) ∧ BTre w' K q p s' e' ∧ Kept K w w' := by
  induction hp with
  | @leaf s s' e e' h sm r l z hl hz sn hh =>
    intro K w ha
    have c0 := ha.c0
    have H1 := fun w ha => Lib.hid (row_leaf (w := w) (K := fun b => K b ∨ b = q) (p := p) hz ha sn.fit)
    have H2 := fun w ha => Lib.hid (row_leaf (w := w) (K := fun b => K b ∨ b = q) (p := p) hl ha sn.fit)
    have HBl := fun w => Lib.hid (bbits_is l w hl.2.2)
    have HBz := fun w => Lib.hid (bbits_is z w hz.2.2)
    have l6 : (l.length : Int) ≤ 64 := by have := hl.2.2; omega
    have z6 : (z.length : Int) ≤ 64 := by have := hz.2.2; omega
    have SN := Lib.hid sn
    have HH := Lib.hid hh
    have Ha := Lib.hid ha
    clear hl hz sn hh ha
    go_enter Try.func69, Try.ntmps69
    go_wp2_with fail
    refine (H1 _ Ha.out.ars).out.mono ?_
    rintro o w1 ⟨rfl, ha1, hk1⟩
    have B1 := Lib.hid (hk1.alloc hk1.size (.cells #[.int .i64 1, .int .i64 0, .int .i64 0, .int .i64 0, .int .i64 0, .int .u64 (bN z), .int .u64 z.length] 44))
    have hx9 := Lib.hid (heap_alloc_new w1 (.cells #[.int .i64 1, .int .i64 0, .int .i64 0, .int .i64 0, .int .i64 0, .int .u64 (bN z), .int .u64 z.length] 44))
    have d0 := (Ha.out.below B1.out).c0
    clear ha1 hk1 c0
    go_wp2_with fail
    refine (H2 _ (Ha.out.below B1.out).ars).out.mono ?_
    rintro o w2 ⟨rfl, ha2, hk2⟩
    have B2 := Lib.hid ((B1.out.trans (hk2.mono B1.out.size)).alloc (Nat.le_trans B1.out.size hk2.size) (.cells #[.int .i64 1, .int .i64 0, .int .i64 0, .int .i64 0, .int .i64 0, .int .u64 (bN l), .int .u64 l.length] 44))
    have hx11 := heap_alloc_new w2 (.cells #[.int .i64 1, .int .i64 0, .int .i64 0, .int .i64 0, .int .i64 0, .int .u64 (bN l), .int .u64 l.length] 44)
    have hy9 := (Below.heap_alloc w2 (.cells #[.int .i64 1, .int .i64 0, .int .i64 0, .int .i64 0, .int .i64 0, .int .u64 (bN l), .int .u64 l.length] 44) _ (Nat.lt_of_lt_of_le (lt_heap hx9.out) hk2.size)).trans ((hk2.block _ (lt_heap hx9.out)).trans hx9.out)
    clear ha2 hk2 hx9 B1
    clear H1 H2
    go_upto_region 4 with fail
    generalize w2.alloc (.cells #[.int .i64 1, .int .i64 0, .int .i64 0, .int .i64 0, .int .i64 0, .int .u64 (bN l), .int .u64 l.length] 44) = w3 at *
    generalize w2.heap.size = b11 at *
    generalize w1.heap.size = b9 at *
    have y9 := Lib.hid hy9
    have y11 := Lib.hid hx11
    clear hy9 hx11
    have HS := Lib.hid (show w.heap.size ≤ w3.heap.size from B2.out.size)
    have S3 := Lib.hid (boxes_cells y9.out y11.out)
    clear y9 y11
    go_cut [13, 14] (fun b1 b2 W => ∃ g1 g2 : Nat, b1 = .pointer (some ⟨g1, 0, none⟩) ∧ b2 = .pointer (some ⟨g2, 0, none⟩) ∧ TwoL w3 l z g1 g2 W)
    case first =>
      rename_i Qx K1x h3 Kx h2 J0 K0 h1 h0
      clear h3 h2
      clear_value Qx
      have H0 := Lib.hid h0
      have H1 := Lib.hid h1
      clear h0 h1 HH Ha SN B2 d0 HS l6 z6
      refine wp_region_noPanic ?_
      refine wp_region_held_drew (S := fun w' => Below w3.heap.size w3 w') (by kernel_rfl) (Below.refl _ _).drew (fun hHeld => ?_)
      refine wpAnyH_take (i := 0) (v := (.agg #[.int .i64 1, .int .i64 0, .int .i64 0, .int .i64 0, .int .i64 0, .int .u64 (bN l), .int .u64 l.length])) rfl (by kernel_rfl) (by kernel_rfl) (by kernel_rfl) (fun _ _ _ h => h) (Or.inl ⟨by rfl, fun W hW => ?ld0⟩) hHeld ?r1
      case ld0 =>
        obtain ⟨a0, a1, a2, a3, a4, a5, a6, c0, c1, c2, c3, c4, c5, c6⟩ := boxes_keep hW S3.out
        go_simp
      try simp only [Act.put, List.setIfInBounds_toArray]
      refine wpAnyH_take (i := 2) (v := (.agg #[.int .i64 1, .int .i64 0, .int .i64 0, .int .i64 0, .int .i64 0, .int .u64 (bN z), .int .u64 z.length])) rfl (by kernel_rfl) (by kernel_rfl) (by kernel_rfl) (fun _ _ _ h => h) (Or.inl ⟨by rfl, fun W hW => ?ld2⟩) hHeld ?r2
      case ld2 =>
        obtain ⟨a0, a1, a2, a3, a4, a5, a6, c0, c1, c2, c3, c4, c5, c6⟩ := boxes_keep hW S3.out
        go_simp
      try simp only [Act.put]
      refine dag (w0 := w3) (vl := (.agg #[.int .u64 (bN l), .int .i64 l.length])) (vz := (.agg #[.int .u64 (bN z), .int .i64 z.length])) (n1 := (.agg #[.int .i64 1, .int .i64 0, .int .i64 0, .int .i64 0, .int .i64 0, .int .u64 (bN l), .int .u64 l.length])) (n3 := (.agg #[.int .i64 1, .int .i64 0, .int .i64 0, .int .i64 0, .int .i64 0, .int .u64 (bN z), .int .u64 z.length])) (o := (.cells #[.int .u64 0, .int .i64 0] 66)) (d1 := 39) (d3 := 41) (d4 := 13) (d5 := 14) (i1 := 38) (i3 := 40) (by decide) (by decide) (by decide) (by decide) (by decide) (by decide) (by decide) (by decide) (by decide) (by decide) (by decide) (by decide) (by decide) (by decide) ?hr ?h1 ?h3 ?h4 ?h5 ?hfin rfl rfl hHeld
      case hr =>
        intro b1 b3 b4 b5 h
        cases b1 <;> cases b3 <;> cases b4 <;> cases b5 <;> first | kernel_rfl | exact absurd (h rfl) (by decide)
      case h1 =>
        intro a W K ha hK
        refine wpOp_of rfl (by rfl) ?_
        go_simp
        refine (HBl _).out.mono ?_
        rintro e w' ⟨rfl, hb⟩
        exact hK w' hb
      case h3 =>
        intro a W K ha hK
        refine wpOp_of rfl (by rfl) ?_
        go_simp
        refine (HBz _).out.mono ?_
        rintro e w' ⟨rfl, hb⟩
        exact hK w' hb
      case h4 =>
        intro a W K hK
        refine wpOp_of rfl (by rfl) ?_
        go_simp
        exact hK
      case h5 =>
        intro a W K hK
        refine wpOp_of rfl (by rfl) ?_
        go_simp
        exact hK
      case hfin =>
        intro g4 g5 W hB f4 f5 ne l4 l5
        obtain ⟨⟨mc0, mc1, mcf⟩, ⟨me0, me1, mef⟩, mn1, mn2⟩ := cells_two f4
        obtain ⟨⟨nc0, nc1, ncf⟩, ⟨ne0, ne1, nef⟩, nn1, nn2⟩ := cells_two f5
        have ne2 := ne.symm
        unfold ptr
        have F4 := Lib.hid f4
        have F5 := Lib.hid f5
        have HB := Lib.hid hB
        clear f4 f5 hB me0 me1 mef ne0 ne1 nef mn1 mn2 nn1 nn2 hHeld S3
        try simp only [Act.put]
        refine wpAnyH_ready (rs := [6]) (by kernel_rfl) (by simp) ?_
        refine AllReadyH.cons rfl (fun K hK => ?_) AllReadyH.nil
        go_simp
        refine hK.out _ _ ((HB.out.setCell (p := ⟨g4, 0, none⟩) l4 _).setCell (p := ⟨g4, 1, none⟩) l4 _) (fun _ => ?_)
        clear hK K
        try simp only [List.setIfInBounds_toArray, List.set_cons_zero, List.set_cons_succ]
        refine wpAnyH_ready (rs := [7]) (by kernel_rfl) (by simp) ?_
        refine AllReadyH.cons rfl (fun K hK => ?_) AllReadyH.nil
        go_simp
        refine hK.out _ _ ((((HB.out.setCell (p := ⟨g4, 0, none⟩) l4 _).setCell (p := ⟨g4, 1, none⟩) l4 _).setCell (p := ⟨g5, 0, none⟩) l5 _).setCell (p := ⟨g5, 1, none⟩) l5 _) (fun _ => ?_)
        clear hK K
        try simp only [List.setIfInBounds_toArray, List.set_cons_zero, List.set_cons_succ]
        refine wpAnyH_done (by kernel_rfl) ?_ _
        refine NoPanic.normal ?_
        have h0 := H0.out
        have h1 := H1.out
        go_wp2_with fail
        go_meet
        case rel => exact ⟨g4, g5, rfl, rfl, two_end HB.out F4.out F5.out ne l4 l5⟩
    case rest =>
      obtain ⟨g1, g2, rfl, rfl, two⟩ := hcut
      have hB := B2.out.trans (two.below.mono HS.out)
      have l1 := lt_heap two.ba
      have l2 := lt_heap two.bb
      have z1 : w.heap.size ≤ g1 := Nat.le_trans HS.out two.g1
      have z2 : w.heap.size ≤ g2 := Nat.le_trans HS.out two.g2
      obtain ⟨K1, hK1⟩ : ∃ K1 : Nat → Prop, K1 = fun b => K b ∨ b = g1 ∨ b = g2 := ⟨_, rfl⟩
      have T0 := Lib.hid (Ha.out.newK (K' := K1) hB fun b hb => by
        rw [hK1] at hb
        rcases hb with hb | rfl | rfl
        · exact ⟨Nat.lt_of_lt_of_le (Ha.out.ars.lt b (.inl hb)) hB.size, .inl hb⟩
        · exact ⟨l1, .inr z1⟩
        · exact ⟨l2, .inr z2⟩)
      have kg1 := Lib.hid (show K1 g1 by rw [hK1]; exact .inr (.inl rfl))
      have kg2 := Lib.hid (show K1 g2 by rw [hK1]; exact .inr (.inr rfl))
      have hKK := Lib.hid (show ∀ b, K b → K1 b from fun b hb => by rw [hK1]; exact .inl hb)
      have HD := Lib.hid (bdrop2 (x := h) (y := sm) SN.out T0.out)
      have KB := Lib.hid (Kept.of_below hB K)
      have TA := Lib.hid two.ba
      have TB := Lib.hid two.bb
      have L1 := Lib.hid l1
      have L2 := Lib.hid l2
      have Z1 := Lib.hid z1
      have Z2 := Lib.hid z2
      have ne := two.ne
      have ne' := two.ne.symm
      clear hB l1 l2 z1 z2 hK1 two B2 HS S3 HBl HBz Ha SN d0
      go_wp2_with fail
      refine HD.out.mono ?_
      rintro o w4 ⟨rfl, h4, k4⟩
      have X1 := Lib.hid ((k4.block g1 L1.out kg1.out).trans TA.out)
      have X2 := Lib.hid ((k4.block g2 L2.out kg2.out).trans TB.out)
      have T4 := Lib.hid h4
      have K4 := Lib.hid (KB.out.trans (k4.mono fun b _ h => hKK.out b h))
      clear h4 k4 HD T0 TA TB L1 L2 KB
      obtain ⟨⟨mc0, mc1, mcf⟩, _, _, _⟩ := cells_two X1.out
      obtain ⟨⟨nc0, nc1, ncf⟩, _, _, _⟩ := cells_two X2.out
      cases ahead
      · have HC := Lib.hid (bhalves_call (w := w4) (K := K1) (q := q) (p := p) (a := l) (b := z) HH.out T4.out)
        clear HH
        go_wp2_with fail
        refine HC.out.mono ?_
        rintro o w5 ⟨rfl, h5, k5⟩
        go_wp2_with fail
        go_ret
        exact ⟨rfl, h5.more hKK.out, K4.out.trans (k5.mono fun b _ h => hKK.out b h)⟩
      · have T5 := Lib.hid ((((T4.out.put kg1.out 0 (.int .u64 (bN z))).put kg1.out 1 (.int .i64 z.length)).put kg2.out 0 (.int .u64 (bN l))).put kg2.out 1 (.int .i64 l.length))
        have K5 := Lib.hid ((((K4.out.setCell (p := ⟨g1, 0, none⟩) (.inr Z1.out) (.int .u64 (bN z))).setCell (p := ⟨g1, 1, none⟩) (.inr Z1.out) (.int .i64 z.length)).setCell (p := ⟨g2, 0, none⟩) (.inr Z2.out) (.int .u64 (bN l))).setCell (p := ⟨g2, 1, none⟩) (.inr Z2.out) (.int .i64 l.length))
        have HC := fun W hW => Lib.hid (bhalves_call (w := W) (K := K1) (q := q) (p := p) (a := z) (b := l) HH.out hW)
        clear HH
        go_wp2_with fail
        refine (HC _ T5.out).out.mono ?_
        rintro o w5 ⟨rfl, h5, k5⟩
        go_wp2_with fail
        go_ret
        exact ⟨rfl, h5.more hKK.out, K5.out.trans (k5.mono fun b _ h => hKK.out b h)⟩
  | @ahead s s1 s2 s' e e2 e' h sm x y p0 r z hah hz sn ho _ hf ih =>
    subst hah
    intro K w ha
    have c0 := ha.c0
    obtain ⟨m, o, v⟩ := ho.vw
    have H1 := fun w ha => Lib.hid (row_leaf (w := w) (K := fun b => K b ∨ b = q) (p := p) hz ha sn.fit)
    have H2 := fun w ha => Lib.hid (row_fork (w := w) (K := fun b => K b ∨ b = q) (p := p) v ha sn.fit)
    have HO := fun w ha => Lib.hid (bopen_is (w := w) (K := K) (q := q) (p := p) (e := e) ho ha)
    have IH := fun w ha => Lib.hid (ih K w ha)
    have HF := Lib.hid hf
    have Ha := Lib.hid ha
    clear v hz sn hf ih ha ho
    go_enter Try.func69, Try.ntmps69
    go_wp2_with fail
    refine (H1 _ Ha.out.ars).out.mono ?_
    rintro o w1 ⟨rfl, ha1, hk1⟩
    have B1 := Lib.hid (hk1.alloc hk1.size (.cells #[.int .i64 1, .int .i64 0, .int .i64 0, .int .i64 0, .int .i64 0, .int .u64 (bN z), .int .u64 z.length] 44))
    have d0 := (Ha.out.below B1.out).c0
    clear ha1 hk1 c0
    go_wp2_with fail
    refine (H2 _ (Ha.out.below B1.out).ars).out.mono ?_
    rintro o w2 ⟨rfl, ha2, hk2⟩
    have B2 := Lib.hid ((B1.out.trans (hk2.mono B1.out.size)).alloc (Nat.le_trans B1.out.size hk2.size) (.cells #[.int .i64 2, .int .i64 x, .int .i64 y, .int .i64 0, .int .i64 0, .int .u64 m, .int .u64 o] 44))
    clear ha2 hk2 B1
    go_wp2_with fail
    refine (HO _ (Ha.out.below B2.out)).out.mono ?_
    rintro o w3 ⟨rfl, h3, k3⟩
    have T3 := Lib.hid h3
    have K3 := Lib.hid ((Kept.of_below B2.out K).trans k3)
    clear h3 k3 B2 Ha
    go_wp2_with fail
    refine (IH _ T3.out).out.mono ?_
    rintro o w4 ⟨rfl, h4, k4⟩
    have T4 := Lib.hid h4
    have K4 := Lib.hid (K3.out.trans k4)
    clear h4 k4 T3 K3
    go_wp2_with fail
    refine (bfork_walk HF.out T4.out).mono ?_
    rintro o w5 ⟨rfl, h5, k5⟩
    go_wp2_with fail
    go_ret
    exact ⟨rfl, h5, K4.out.trans k5⟩
  | @behind s s1 s2 s' e e2 e' h sm x y p0 r z hah hz sn ho _ hf ih =>
    subst hah
    intro K w ha
    have c0 := ha.c0
    obtain ⟨m, o, v⟩ := ho.vw
    have H1 := fun w ha => Lib.hid (row_leaf (w := w) (K := fun b => K b ∨ b = q) (p := p) hz ha sn.fit)
    have H2 := fun w ha => Lib.hid (row_fork (w := w) (K := fun b => K b ∨ b = q) (p := p) v ha sn.fit)
    have HO := fun w ha => Lib.hid (bopen_is (w := w) (K := K) (q := q) (p := p) (e := e) ho ha)
    have IH := fun w ha => Lib.hid (ih K w ha)
    have HF := Lib.hid hf
    have Ha := Lib.hid ha
    clear v hz sn hf ih ha ho
    go_enter Try.func69, Try.ntmps69
    go_wp2_with fail
    refine (H1 _ Ha.out.ars).out.mono ?_
    rintro o w1 ⟨rfl, ha1, hk1⟩
    have B1 := Lib.hid (hk1.alloc hk1.size (.cells #[.int .i64 1, .int .i64 0, .int .i64 0, .int .i64 0, .int .i64 0, .int .u64 (bN z), .int .u64 z.length] 44))
    have d0 := (Ha.out.below B1.out).c0
    clear ha1 hk1 c0
    go_wp2_with fail
    refine (H2 _ (Ha.out.below B1.out).ars).out.mono ?_
    rintro o w2 ⟨rfl, ha2, hk2⟩
    have B2 := Lib.hid ((B1.out.trans (hk2.mono B1.out.size)).alloc (Nat.le_trans B1.out.size hk2.size) (.cells #[.int .i64 2, .int .i64 x, .int .i64 y, .int .i64 0, .int .i64 0, .int .u64 m, .int .u64 o] 44))
    clear ha2 hk2 B1
    go_wp2_with fail
    refine (HO _ (Ha.out.below B2.out)).out.mono ?_
    rintro o w3 ⟨rfl, h3, k3⟩
    have T3 := Lib.hid h3
    have K3 := Lib.hid ((Kept.of_below B2.out K).trans k3)
    clear h3 k3 B2 Ha
    go_wp2_with fail
    refine (IH _ T3.out).out.mono ?_
    rintro o w4 ⟨rfl, h4, k4⟩
    have T4 := Lib.hid h4
    have K4 := Lib.hid (K3.out.trans k4)
    clear h4 k4 T3 K3
    go_wp2_with fail
    refine (bfork_walk HF.out T4.out).mono ?_
    rintro o w5 ⟨rfl, h5, k5⟩
    go_wp2_with fail
    go_ret
    exact ⟨rfl, h5, K4.out.trans k5⟩
end
end Go.Proofs.Ytjfeocoengheaaa
