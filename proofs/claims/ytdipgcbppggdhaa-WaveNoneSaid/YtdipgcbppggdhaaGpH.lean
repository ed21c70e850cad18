/- Two calls that follow one another, and two allocs that may come up at any time between: whatever order, the state is the same but for the new addresses. Of any program. -/
import Derived.Test.YtdipgcbppggdhaaGpA
import Derived.Deep.RegionHeld3
import Derived.Test.YtdipgcbppggdhaaBw10
namespace Go.Proofs.Ytdipgcbppggdhaa
set_option maxRecDepth 100000
open Go.RowKit

/-- A temporary that has its value, or not yet. -/
def po (a : Act) (d : Nat) : Option Value → Act
  | none => a
  | some v => a.put (some d) v
theorem po_put {a : Act} {d d' : Nat} (h : d ≠ d') (x : Option Value) (v : Value) : (po a d x).put (some d') v = po (a.put (some d') v) d x := by
  cases x with
  | none => rfl
  | some u => exact Act.put_comm a (x := some d) (y := some d') u v fun e he h2 => h (Option.some.inj (he.trans h2.symm))
def fr (a : Act) (d1 d3 d4 d5 : Nat) (x1 x3 x4 x5 : Option Value) : Act := po (po (po (po a d1 x1) d3 x3) d4 x4) d5 x5
theorem put_get {a : Act} {d i : Nat} (h : d ≠ i) (v : Value) : (a.put (some d) v).tmps.getD i undef = a.tmps.getD i undef := by
  show (a.tmps.setIfInBounds d v).getD i undef = _
  simp only [Array.getD_eq_getD_getElem?]
  rw [Array.getElem?_setIfInBounds_ne h]
theorem po_get {a : Act} {d i : Nat} (h : d ≠ i) (x : Option Value) : (po a d x).tmps.getD i undef = a.tmps.getD i undef := by
  cases x with
  | none => rfl
  | some v => exact put_get h v
section
variable {P : Program} {ops : Array Oper} {Q : Exit → Act → World → Prop}
def ptr (g : Nat) : Value := .pointer (some ⟨g, 0, none⟩)
def opt (b : Bool) (v : Value) : Option Value := if b then some v else none
def lacks (b1 b3 b4 b5 : Bool) : Nat := (if b1 then 0 else 1) + (if b3 then 0 else 1) + (if b4 then 0 else 1) + (if b5 then 0 else 1)
theorem dag {a0 : Act} {w0 : World} {vl vz n1 n3 : Value} {o : Obj} {d1 d3 d4 d5 i1 i3 : Nat}
    (e1 : d1 ≠ d3) (e2 : d1 ≠ d4) (e3 : d1 ≠ d5) (e4 : d3 ≠ d4) (e5 : d3 ≠ d5) (e6 : d4 ≠ d5)
    (m1 : d1 ≠ i1) (m2 : d3 ≠ i1) (m3 : d4 ≠ i1) (m4 : d5 ≠ i1) (m5 : d1 ≠ i3) (m6 : d3 ≠ i3) (m7 : d4 ≠ i3) (m8 : d5 ≠ i3)
    (hr : ∀ b1 b3 b4 b5 : Bool, (b3 = true → b1 = true) → Region.ready .any ops #[true, b1, true, b3, b4, b5, false, false] = (if b1 then [] else [1]) ++ (if b1 && !b3 then [3] else []) ++ (if b4 then [] else [4]) ++ (if b5 then [] else [5]) ++ (if b1 && b3 && b4 && b5 then [6] else []))
    (h1 : ∀ (a : Act) (w : World) (K : Act → World → Prop), a.tmps.getD i1 undef = n1 → (∀ w', Below w.heap.size w w' → K (a.put (some d1) vl) w') → wpOp P ops Q 1 K a w)
    (h3 : ∀ (a : Act) (w : World) (K : Act → World → Prop), a.tmps.getD i3 undef = n3 → (∀ w', Below w.heap.size w w' → K (a.put (some d3) vz) w') → wpOp P ops Q 3 K a w)
    (h4 : ∀ (a : Act) (w : World) (K : Act → World → Prop), K (a.put (some d4) (ptr w.heap.size)) (w.alloc o) → wpOp P ops Q 4 K a w)
    (h5 : ∀ (a : Act) (w : World) (K : Act → World → Prop), K (a.put (some d5) (ptr w.heap.size)) (w.alloc o) → wpOp P ops Q 5 K a w)
    (hfin : ∀ (g4 g5 : Nat) (w : World), Below w0.heap.size w0 w → w.heap[g4]? = some o → w.heap[g5]? = some o → g4 ≠ g5 → w0.heap.size ≤ g4 → w0.heap.size ≤ g5 →
      wpAnyH P .any ops Q (fun w => Below w0.heap.size w0 w) 2 #[true, true, true, true, true, true, false, false] ((((a0.put (some d1) vl).put (some d3) vz).put (some d4) (ptr g4)).put (some d5) (ptr g5)) w)
    (k1 : a0.tmps.getD i1 undef = n1) (k3 : a0.tmps.getD i3 undef = n3) {w : World} (hw : Below w0.heap.size w0 w) :
    wpAnyH P .any ops Q (fun w => Below w0.heap.size w0 w) 6 #[true, false, true, false, false, false, false, false] a0 w := by
  have main : ∀ (n : Nat) (b1 b3 b4 b5 : Bool) (a : Act) (w : World) (g4 g5 : Nat), (b3 = true → b1 = true) → n = lacks b1 b3 b4 b5 → a = fr a0 d1 d3 d4 d5 (opt b1 vl) (opt b3 vz) (opt b4 (ptr g4)) (opt b5 (ptr g5)) → Below w0.heap.size w0 w →
      (b4 = true → w0.heap.size ≤ g4 ∧ w.heap[g4]? = some o) → (b5 = true → w0.heap.size ≤ g5 ∧ w.heap[g5]? = some o) → (b4 = true → b5 = true → g4 ≠ g5) →
      wpAnyH P .any ops Q (fun w => Below w0.heap.size w0 w) (n + 2) #[true, b1, true, b3, b4, b5, false, false] a w := by
    intro n
    induction n with
    | zero =>
      intro b1 b3 b4 b5 a w g4 g5 _ hn ha hB f4 f5 ne
      cases b1 <;> cases b3 <;> cases b4 <;> cases b5 <;> simp [lacks] at hn
      subst ha
      obtain ⟨u1, u2⟩ := f4 rfl
      obtain ⟨v1, v2⟩ := f5 rfl
      exact hfin g4 g5 w hB u2 v2 (ne rfl rfl) u1 v1
    | succ n ih =>
      intro b1 b3 b4 b5 a w g4 g5 h13 hn ha hB f4 f5 ne
      have keep : ∀ {w' : World}, Below w.heap.size w w' → Below w0.heap.size w0 w' ∧ (b4 = true → w0.heap.size ≤ g4 ∧ w'.heap[g4]? = some o) ∧ (b5 = true → w0.heap.size ≤ g5 ∧ w'.heap[g5]? = some o) := fun {w'} hb =>
        ⟨hB.trans (hb.mono hB.size), fun e => ⟨(f4 e).1, (hb.block g4 (lt_heap (f4 e).2)).trans (f4 e).2⟩, fun e => ⟨(f5 e).1, (hb.block g5 (lt_heap (f5 e).2)).trans (f5 e).2⟩⟩
      have q1 : a.tmps.getD i1 undef = n1 := by
        rw [ha]; unfold fr
        rw [po_get m4, po_get m3, po_get m2, po_get m1]; exact k1
      have q3 : a.tmps.getD i3 undef = n3 := by
        rw [ha]; unfold fr
        rw [po_get m8, po_get m7, po_get m6, po_get m5]; exact k3
      have hrr := hr b1 b3 b4 b5 h13
      refine wpAnyH_all hrr (by cases b1 <;> cases b3 <;> cases b4 <;> cases b5 <;> simp [lacks] at hn ⊢) fun i hi => ?_
      simp only [List.mem_append] at hi
      rcases hi with (((hi | hi) | hi) | hi) | hi
      · cases b1 with
        | true => simp at hi
        | false =>
          obtain rfl : i = 1 := by simpa using hi
          have b3f : b3 = false := by cases b3 with
            | false => rfl
            | true => exact absurd (h13 rfl) (by decide)
          subst b3f
          refine h1 a w _ q1 fun w' hb => ?_
          obtain ⟨z1, z2, z3⟩ := keep hb
          refine ⟨z1, ih true false b4 b5 _ w' g4 g5 (fun _ => rfl) (by simp only [lacks] at hn ⊢; simp at hn ⊢; omega) ?_ z1 z2 z3 ne⟩
          rw [ha]
          unfold fr
          rw [po_put e3.symm, po_put e2.symm, po_put e1.symm]
          rfl
      · by_cases hb : (b1 && !b3) = true
        · obtain ⟨c1, c2⟩ : b1 = true ∧ b3 = false := by simpa using hb
          subst c1 c2
          obtain rfl : i = 3 := by simpa using hi
          refine h3 a w _ q3 fun w' hb => ?_
          obtain ⟨z1, z2, z3⟩ := keep hb
          refine ⟨z1, ih true true b4 b5 _ w' g4 g5 (fun _ => rfl) (by simp only [lacks] at hn ⊢; simp at hn ⊢; omega) ?_ z1 z2 z3 ne⟩
          rw [ha]
          unfold fr
          rw [po_put e5.symm, po_put e4.symm]
          rfl
        · rw [if_neg hb] at hi; cases hi
      · cases b4 with
        | true => simp at hi
        | false =>
          obtain rfl : i = 4 := by simpa using hi
          refine h4 a w _ ?_
          have hb : Below w.heap.size w (w.alloc o) := (Below.refl _ _).alloc (Nat.le_refl _) o
          obtain ⟨z1, _, z3⟩ := keep hb
          refine ⟨z1, ih b1 b3 true b5 _ _ w.heap.size g5 h13 (by simp only [lacks] at hn ⊢; simp at hn ⊢; omega) ?_ z1 (fun _ => ⟨hB.size, heap_alloc_new _ _⟩) z3 fun _ e => ?_⟩
          · rw [ha]
            unfold fr
            rw [po_put e6.symm]
            rfl
          · have := lt_heap (f5 e).2
            omega
      · cases b5 with
        | true => simp at hi
        | false =>
          obtain rfl : i = 5 := by simpa using hi
          refine h5 a w _ ?_
          have hb : Below w.heap.size w (w.alloc o) := (Below.refl _ _).alloc (Nat.le_refl _) o
          obtain ⟨z1, z2, _⟩ := keep hb
          refine ⟨z1, ih b1 b3 b4 true _ _ g4 w.heap.size h13 (by simp only [lacks] at hn ⊢; simp at hn ⊢; omega) ?_ z1 z2 (fun _ => ⟨hB.size, heap_alloc_new _ _⟩) fun e _ => ?_⟩
          · rw [ha]
            rfl
          · have := lt_heap (f4 e).2
            omega
      · by_cases hb : (b1 && b3 && b4 && b5) = true
        · obtain ⟨⟨⟨c1, c2⟩, c3⟩, c4⟩ : ((b1 = true ∧ b3 = true) ∧ b4 = true) ∧ b5 = true := by simpa using hb
          subst c1 c2 c3 c4
          simp [lacks] at hn
        · rw [if_neg hb] at hi; cases hi
  exact main 4 false false false false a0 w 0 0 (fun h => by cases h) rfl rfl hw (fun h => by cases h) (fun h => by cases h) (fun h => by cases h)
end
end Go.Proofs.Ytdipgcbppggdhaa
namespace Go.Proofs.Ytdipgcbppggdhaa
set_option maxRecDepth 100000
open Go.RowKit

section
variable {q p : Nat}
set_option maxRecDepth 100000 in
set_option maxHeartbeats 4000000 in
theorem bhalves_call {K : Nat → Prop} {w : World} {s s' : Ar} {e e' r : Int} {a b : List Bool} (hh : Halves s e a b s' e' r) (ha : BTre w K q p s e) :
    Calls Try.prog 100 #[.pointer (some ⟨q, 0, none⟩), .agg #[.int .u64 (bN a), .int .i64 a.length], .agg #[.int .u64 (bN b), .int .i64 b.length]] w fun o w' => o = .returned (.int .i64 r) ∧ BTre w' K q p s' e' ∧ Kept K w w' := by
  cases hh with
  | one h1 h2 h3 hl =>
    have HJ := fun w => Lib.hid (ljoin_yes a b w h3)
    have HL := fun w ha => bleaf_is (w := w) (K := K) (q := q) (p := p) hl ha
    rw [List.length_append] at HL
    replace HL := fun w ha => Lib.hid (HL w ha)
    have Ha := Lib.hid ha
    clear h1 h2 h3 hl ha
    generalize (bN (a ++ b) : Int) = X at *
    go_enter Try.func100, Try.ntmps100
    go_wp2_with fail
    refine (HJ _).out.mono ?_
    rintro o w1 ⟨rfl, hk1⟩
    have B1 := Lib.hid (((((Below.refl w.heap.size w).alloc (Nat.le_refl _) (.cells #[.int .u64 (bN a), .int .i64 a.length] 71)).alloc (by simp) (.cells #[.int .u64 (bN b), .int .i64 b.length] 71)).trans (hk1.mono (by simp; omega))).alloc (by have := hk1.size; simp at this; omega) (.cells #[.int .u64 X, .int .i64 (a.length + b.length : Nat)] 71))
    clear hk1 HJ
    go_wp2_with fail
    refine (HL _ (Ha.out.below B1.out)).out.mono ?_
    rintro o w2 ⟨rfl, h2, k2⟩
    go_wp2_with fail
    go_ret
    exact ⟨rfl, h2, (Kept.of_below B1.out K).trans k2⟩
  | two h1 h2 h3 hl1 hl2 hp =>
    have hlen : (a ++ b).length = a.length + b.length := List.length_append
    have e1 : (a ++ b).take a.length = a := List.take_left' rfl
    have e2 : (a ++ b).drop a.length = b := List.drop_left' rfl
    have := bhalves_two (K := K) (w := w) (q := q) (p := p) (l := a ++ b) (n := a.length) (m := b.length) (by rw [e1]) (by rw [e2]) hlen.symm h1 h2 (by omega) (by rw [hlen]; exact hl1) (by rw [hlen]; exact hl2) hp ha
    rw [e1, e2] at this
    exact this
end
end Go.Proofs.Ytdipgcbppggdhaa
namespace Go.Proofs.Ytdipgcbppggdhaa
set_option maxRecDepth 100000
open Go.RowKit

section
variable {q p : Nat}
/-- Two leaves, each in a block of its own. -/
structure TwoL (w : World) (a b : List Bool) (b1 b2 : Nat) (W : World) : Prop where
  below : Below w.heap.size w W
  ba : W.heap[b1]? = some (.cells #[.int .u64 (bN a), .int .i64 a.length] 71 (0, 0))
  bb : W.heap[b2]? = some (.cells #[.int .u64 (bN b), .int .i64 b.length] 71 (0, 0))
  g1 : w.heap.size ≤ b1
  g2 : w.heap.size ≤ b2
  ne : b1 ≠ b2
theorem blk {W W' : World} {b : Nat} {o : Obj} (k : Below W.heap.size W W') (h : W.heap[b]? = some o) : W'.heap[b]? = some o := (k.block b (lt_heap h)).trans h
theorem blk1 (W : World) (o : Obj) : (W.drew.alloc o).heap[W.heap.size]? = some o := heap_alloc_new W.drew o
theorem blk1' (W : World) (o : Obj) : (W.alloc o).heap[W.heap.size]? = some o := heap_alloc_new W o
theorem blk2 (W : World) (o o' : Obj) : ((W.drew.alloc o).alloc o').heap[W.heap.size]? = some o := (Below.heap_alloc _ _ _ (by simp)).trans (heap_alloc_new W.drew o)
theorem blk2' (W : World) (o o' : Obj) : ((W.alloc o).alloc o').heap[W.heap.size]? = some o := (Below.heap_alloc _ _ _ (by simp)).trans (heap_alloc_new W o)
theorem blk2s (W : World) (o o' : Obj) : ((W.drew.alloc o).alloc o').heap[W.heap.size + 1]? = some o' := al2_1 W.drew o o'
theorem blk2s' (W : World) (o o' : Obj) : ((W.alloc o).alloc o').heap[W.heap.size + 1]? = some o' := al2_1 W o o'
theorem cells_two {W : World} {b : Nat} {x y : Value} {ty : TypeId} (h : W.heap[b]? = some (.cells #[x, y] ty (0, 0))) : (W.cell? ⟨b, 0, none⟩ = some x ∧ W.cell? ⟨b, 1, none⟩ = some y ∧ ∀ j, W.frozen? ⟨b, j, none⟩ = false) ∧
    ((∀ o, (W.alloc o).cell? ⟨b, 0, none⟩ = some x) ∧ (∀ o, (W.alloc o).cell? ⟨b, 1, none⟩ = some y) ∧ ∀ o j, (W.alloc o).frozen? ⟨b, j, none⟩ = false) ∧ b ≠ W.heap.size ∧ W.heap.size ≠ b := by
  have l := lt_heap h
  have ha : ∀ o, (W.alloc o).heap[b]? = some (.cells #[x, y] ty (0, 0)) := fun o => (Below.heap_alloc _ _ _ l).trans h
  exact ⟨⟨cell_of_row _ _ _ _ _ _ h, cell_of_row _ _ _ _ _ _ h, fun _ => frozen_of_row _ _ _ _ _ h⟩, ⟨fun o => cell_of_row _ _ _ _ _ _ (ha o), fun o => cell_of_row _ _ _ _ _ _ (ha o), fun o _ => frozen_of_row _ _ _ _ _ (ha o)⟩, by omega, by omega⟩
theorem wpOp_of {P : Program} {ops : Array Oper} {Q : Exit → Act → World → Prop} {i : Nat} {o : Oper} {K : Act → World → Prop} {a : Act} {w : World} (ho : ops[i]? = some o) (hw : Region.wanted o (yielded ops a.tmps) = true) (h : o.wp P a w K Q) : wpOp P ops Q i K a w := by
  unfold wpOp
  simp only [ho, hw, if_true]
  exact .inl h
theorem two_end {w3 W : World} {l z : List Bool} {g4 g5 : Nat} {x y u v : Value} (hb : Below w3.heap.size w3 W) (h4 : W.heap[g4]? = some (.cells #[x, y] 71 (0, 0))) (h5 : W.heap[g5]? = some (.cells #[u, v] 71 (0, 0))) (ne : g4 ≠ g5) (l4 : w3.heap.size ≤ g4) (l5 : w3.heap.size ≤ g5) :
    TwoL w3 l z g4 g5 ((((W.setCell ⟨g4, 0, none⟩ (.int .u64 (bN l))).setCell ⟨g4, 1, none⟩ (.int .i64 l.length)).setCell ⟨g5, 0, none⟩ (.int .u64 (bN z))).setCell ⟨g5, 1, none⟩ (.int .i64 z.length)) := by
  refine ⟨(((hb.setCell (p := ⟨g4, 0, none⟩) l4 _).setCell (p := ⟨g4, 1, none⟩) l4 _).setCell (p := ⟨g5, 0, none⟩) l5 _).setCell (p := ⟨g5, 1, none⟩) l5 _, ?_, ?_, l4, l5, ne⟩
  · rw [heap_setCell_other _ _ _ _ ne, heap_setCell_other _ _ _ _ ne, heap_setCell_same _ _ _ _ _ _ (heap_setCell_same _ _ _ _ _ _ h4)]; rfl
  · have h5' : ((W.setCell ⟨g4, 0, none⟩ (.int .u64 (bN l))).setCell ⟨g4, 1, none⟩ (.int .i64 l.length)).heap[g5]? = some (.cells #[u, v] 71 (0, 0)) := by
      rw [heap_setCell_other _ _ _ _ ne.symm, heap_setCell_other _ _ _ _ ne.symm]; exact h5
    rw [heap_setCell_same _ _ _ _ _ _ (heap_setCell_same _ _ _ _ _ _ h5')]; rfl
theorem lt_cell {W : World} {b i : Nat} {v : Value} (h : W.cell? ⟨b, i, none⟩ = some v) : b < W.heap.size := block_lt_of_cell h
theorem boxes_cells {W : World} {b9 b11 : Nat} {l z : List Bool} (h9 : W.heap[b9]? = some (.cells #[.int .i64 1, .int .i64 0, .int .i64 0, .int .i64 0, .int .i64 0, .int .u64 (bN z), .int .u64 z.length] 47 (0, 0))) (h11 : W.heap[b11]? = some (.cells #[.int .i64 1, .int .i64 0, .int .i64 0, .int .i64 0, .int .i64 0, .int .u64 (bN l), .int .u64 l.length] 47 (0, 0))) :
    W.cell? ⟨b9, 0, none⟩ = some (.int .i64 1) ∧ W.cell? ⟨b9, 1, none⟩ = some (.int .i64 0) ∧ W.cell? ⟨b9, 2, none⟩ = some (.int .i64 0) ∧ W.cell? ⟨b9, 3, none⟩ = some (.int .i64 0) ∧ W.cell? ⟨b9, 4, none⟩ = some (.int .i64 0) ∧ W.cell? ⟨b9, 5, none⟩ = some (.int .u64 (bN z)) ∧ W.cell? ⟨b9, 6, none⟩ = some (.int .u64 z.length) ∧ W.cell? ⟨b11, 0, none⟩ = some (.int .i64 1) ∧ W.cell? ⟨b11, 1, none⟩ = some (.int .i64 0) ∧ W.cell? ⟨b11, 2, none⟩ = some (.int .i64 0) ∧ W.cell? ⟨b11, 3, none⟩ = some (.int .i64 0) ∧ W.cell? ⟨b11, 4, none⟩ = some (.int .i64 0) ∧ W.cell? ⟨b11, 5, none⟩ = some (.int .u64 (bN l)) ∧ W.cell? ⟨b11, 6, none⟩ = some (.int .u64 l.length) :=
  ⟨cell_of_row _ _ _ _ _ _ h9, cell_of_row _ _ _ _ _ _ h9, cell_of_row _ _ _ _ _ _ h9, cell_of_row _ _ _ _ _ _ h9, cell_of_row _ _ _ _ _ _ h9, cell_of_row _ _ _ _ _ _ h9, cell_of_row _ _ _ _ _ _ h9, cell_of_row _ _ _ _ _ _ h11, cell_of_row _ _ _ _ _ _ h11, cell_of_row _ _ _ _ _ _ h11, cell_of_row _ _ _ _ _ _ h11, cell_of_row _ _ _ _ _ _ h11, cell_of_row _ _ _ _ _ _ h11, cell_of_row _ _ _ _ _ _ h11⟩
theorem boxes_keep {W W' : World} {b9 b11 : Nat} {l z : List Bool} (hb : Below W.heap.size W W') (h : W.cell? ⟨b9, 0, none⟩ = some (.int .i64 1) ∧ W.cell? ⟨b9, 1, none⟩ = some (.int .i64 0) ∧ W.cell? ⟨b9, 2, none⟩ = some (.int .i64 0) ∧ W.cell? ⟨b9, 3, none⟩ = some (.int .i64 0) ∧ W.cell? ⟨b9, 4, none⟩ = some (.int .i64 0) ∧ W.cell? ⟨b9, 5, none⟩ = some (.int .u64 (bN z)) ∧ W.cell? ⟨b9, 6, none⟩ = some (.int .u64 z.length) ∧ W.cell? ⟨b11, 0, none⟩ = some (.int .i64 1) ∧ W.cell? ⟨b11, 1, none⟩ = some (.int .i64 0) ∧ W.cell? ⟨b11, 2, none⟩ = some (.int .i64 0) ∧ W.cell? ⟨b11, 3, none⟩ = some (.int .i64 0) ∧ W.cell? ⟨b11, 4, none⟩ = some (.int .i64 0) ∧ W.cell? ⟨b11, 5, none⟩ = some (.int .u64 (bN l)) ∧ W.cell? ⟨b11, 6, none⟩ = some (.int .u64 l.length)) :
    W'.cell? ⟨b9, 0, none⟩ = some (.int .i64 1) ∧ W'.cell? ⟨b9, 1, none⟩ = some (.int .i64 0) ∧ W'.cell? ⟨b9, 2, none⟩ = some (.int .i64 0) ∧ W'.cell? ⟨b9, 3, none⟩ = some (.int .i64 0) ∧ W'.cell? ⟨b9, 4, none⟩ = some (.int .i64 0) ∧ W'.cell? ⟨b9, 5, none⟩ = some (.int .u64 (bN z)) ∧ W'.cell? ⟨b9, 6, none⟩ = some (.int .u64 z.length) ∧ W'.cell? ⟨b11, 0, none⟩ = some (.int .i64 1) ∧ W'.cell? ⟨b11, 1, none⟩ = some (.int .i64 0) ∧ W'.cell? ⟨b11, 2, none⟩ = some (.int .i64 0) ∧ W'.cell? ⟨b11, 3, none⟩ = some (.int .i64 0) ∧ W'.cell? ⟨b11, 4, none⟩ = some (.int .i64 0) ∧ W'.cell? ⟨b11, 5, none⟩ = some (.int .u64 (bN l)) ∧ W'.cell? ⟨b11, 6, none⟩ = some (.int .u64 l.length) := by
  obtain ⟨a0, a1, a2, a3, a4, a5, a6, c0, c1, c2, c3, c4, c5, c6⟩ := h
  have l9 := lt_cell a0
  have l11 := lt_cell c0
  exact ⟨(hb.cell (p := ⟨b9, 0, none⟩) l9).trans a0, (hb.cell (p := ⟨b9, 1, none⟩) l9).trans a1, (hb.cell (p := ⟨b9, 2, none⟩) l9).trans a2, (hb.cell (p := ⟨b9, 3, none⟩) l9).trans a3, (hb.cell (p := ⟨b9, 4, none⟩) l9).trans a4, (hb.cell (p := ⟨b9, 5, none⟩) l9).trans a5, (hb.cell (p := ⟨b9, 6, none⟩) l9).trans a6, (hb.cell (p := ⟨b11, 0, none⟩) l11).trans c0, (hb.cell (p := ⟨b11, 1, none⟩) l11).trans c1, (hb.cell (p := ⟨b11, 2, none⟩) l11).trans c2, (hb.cell (p := ⟨b11, 3, none⟩) l11).trans c3, (hb.cell (p := ⟨b11, 4, none⟩) l11).trans c4, (hb.cell (p := ⟨b11, 5, none⟩) l11).trans c5, (hb.cell (p := ⟨b11, 6, none⟩) l11).trans c6⟩
theorem boxes_ne {W : World} {b9 b11 : Nat} {l z : List Bool} (h : W.cell? ⟨b9, 0, none⟩ = some (.int .i64 1) ∧ W.cell? ⟨b9, 1, none⟩ = some (.int .i64 0) ∧ W.cell? ⟨b9, 2, none⟩ = some (.int .i64 0) ∧ W.cell? ⟨b9, 3, none⟩ = some (.int .i64 0) ∧ W.cell? ⟨b9, 4, none⟩ = some (.int .i64 0) ∧ W.cell? ⟨b9, 5, none⟩ = some (.int .u64 (bN z)) ∧ W.cell? ⟨b9, 6, none⟩ = some (.int .u64 z.length) ∧ W.cell? ⟨b11, 0, none⟩ = some (.int .i64 1) ∧ W.cell? ⟨b11, 1, none⟩ = some (.int .i64 0) ∧ W.cell? ⟨b11, 2, none⟩ = some (.int .i64 0) ∧ W.cell? ⟨b11, 3, none⟩ = some (.int .i64 0) ∧ W.cell? ⟨b11, 4, none⟩ = some (.int .i64 0) ∧ W.cell? ⟨b11, 5, none⟩ = some (.int .u64 (bN l)) ∧ W.cell? ⟨b11, 6, none⟩ = some (.int .u64 l.length)) :
    ((b9 ≠ W.heap.size ∧ b11 ≠ W.heap.size) ∧ (W.heap.size ≠ b9 ∧ W.heap.size ≠ b11)) ∧ (b9 ≠ W.heap.size + 1 ∧ b11 ≠ W.heap.size + 1) ∧ (W.heap.size + 1 ≠ b9 ∧ W.heap.size + 1 ≠ b11) := by
  have l9 := lt_cell h.1
  have l11 := lt_cell h.2.2.2.2.2.2.2.1
  omega
theorem boxes_set {W : World} {b9 b11 g : Nat} {l z : List Bool} (h : W.cell? ⟨b9, 0, none⟩ = some (.int .i64 1) ∧ W.cell? ⟨b9, 1, none⟩ = some (.int .i64 0) ∧ W.cell? ⟨b9, 2, none⟩ = some (.int .i64 0) ∧ W.cell? ⟨b9, 3, none⟩ = some (.int .i64 0) ∧ W.cell? ⟨b9, 4, none⟩ = some (.int .i64 0) ∧ W.cell? ⟨b9, 5, none⟩ = some (.int .u64 (bN z)) ∧ W.cell? ⟨b9, 6, none⟩ = some (.int .u64 z.length) ∧ W.cell? ⟨b11, 0, none⟩ = some (.int .i64 1) ∧ W.cell? ⟨b11, 1, none⟩ = some (.int .i64 0) ∧ W.cell? ⟨b11, 2, none⟩ = some (.int .i64 0) ∧ W.cell? ⟨b11, 3, none⟩ = some (.int .i64 0) ∧ W.cell? ⟨b11, 4, none⟩ = some (.int .i64 0) ∧ W.cell? ⟨b11, 5, none⟩ = some (.int .u64 (bN l)) ∧ W.cell? ⟨b11, 6, none⟩ = some (.int .u64 l.length)) (n9 : b9 ≠ g) (n11 : b11 ≠ g) (x y : Value) :
    ((W.setCell ⟨g, 0, none⟩ x).setCell ⟨g, 1, none⟩ y).cell? ⟨b9, 0, none⟩ = some (.int .i64 1) ∧ ((W.setCell ⟨g, 0, none⟩ x).setCell ⟨g, 1, none⟩ y).cell? ⟨b9, 1, none⟩ = some (.int .i64 0) ∧ ((W.setCell ⟨g, 0, none⟩ x).setCell ⟨g, 1, none⟩ y).cell? ⟨b9, 2, none⟩ = some (.int .i64 0) ∧ ((W.setCell ⟨g, 0, none⟩ x).setCell ⟨g, 1, none⟩ y).cell? ⟨b9, 3, none⟩ = some (.int .i64 0) ∧ ((W.setCell ⟨g, 0, none⟩ x).setCell ⟨g, 1, none⟩ y).cell? ⟨b9, 4, none⟩ = some (.int .i64 0) ∧ ((W.setCell ⟨g, 0, none⟩ x).setCell ⟨g, 1, none⟩ y).cell? ⟨b9, 5, none⟩ = some (.int .u64 (bN z)) ∧ ((W.setCell ⟨g, 0, none⟩ x).setCell ⟨g, 1, none⟩ y).cell? ⟨b9, 6, none⟩ = some (.int .u64 z.length) ∧ ((W.setCell ⟨g, 0, none⟩ x).setCell ⟨g, 1, none⟩ y).cell? ⟨b11, 0, none⟩ = some (.int .i64 1) ∧ ((W.setCell ⟨g, 0, none⟩ x).setCell ⟨g, 1, none⟩ y).cell? ⟨b11, 1, none⟩ = some (.int .i64 0) ∧ ((W.setCell ⟨g, 0, none⟩ x).setCell ⟨g, 1, none⟩ y).cell? ⟨b11, 2, none⟩ = some (.int .i64 0) ∧ ((W.setCell ⟨g, 0, none⟩ x).setCell ⟨g, 1, none⟩ y).cell? ⟨b11, 3, none⟩ = some (.int .i64 0) ∧ ((W.setCell ⟨g, 0, none⟩ x).setCell ⟨g, 1, none⟩ y).cell? ⟨b11, 4, none⟩ = some (.int .i64 0) ∧ ((W.setCell ⟨g, 0, none⟩ x).setCell ⟨g, 1, none⟩ y).cell? ⟨b11, 5, none⟩ = some (.int .u64 (bN l)) ∧ ((W.setCell ⟨g, 0, none⟩ x).setCell ⟨g, 1, none⟩ y).cell? ⟨b11, 6, none⟩ = some (.int .u64 l.length) := by
  obtain ⟨a0, a1, a2, a3, a4, a5, a6, c0, c1, c2, c3, c4, c5, c6⟩ := h
  have e9 : ((W.setCell ⟨g, 0, none⟩ x).setCell ⟨g, 1, none⟩ y).heap[b9]? = W.heap[b9]? := (heap_setCell_other _ _ _ _ n9).trans (heap_setCell_other _ _ _ _ n9)
  have e11 : ((W.setCell ⟨g, 0, none⟩ x).setCell ⟨g, 1, none⟩ y).heap[b11]? = W.heap[b11]? := (heap_setCell_other _ _ _ _ n11).trans (heap_setCell_other _ _ _ _ n11)
  exact ⟨(World.cell?_of_block e9).trans a0, (World.cell?_of_block e9).trans a1, (World.cell?_of_block e9).trans a2, (World.cell?_of_block e9).trans a3, (World.cell?_of_block e9).trans a4, (World.cell?_of_block e9).trans a5, (World.cell?_of_block e9).trans a6, (World.cell?_of_block e11).trans c0, (World.cell?_of_block e11).trans c1, (World.cell?_of_block e11).trans c2, (World.cell?_of_block e11).trans c3, (World.cell?_of_block e11).trans c4, (World.cell?_of_block e11).trans c5, (World.cell?_of_block e11).trans c6⟩
theorem boxes_alloc {W : World} {b9 b11 : Nat} {l z : List Bool} (h : W.cell? ⟨b9, 0, none⟩ = some (.int .i64 1) ∧ W.cell? ⟨b9, 1, none⟩ = some (.int .i64 0) ∧ W.cell? ⟨b9, 2, none⟩ = some (.int .i64 0) ∧ W.cell? ⟨b9, 3, none⟩ = some (.int .i64 0) ∧ W.cell? ⟨b9, 4, none⟩ = some (.int .i64 0) ∧ W.cell? ⟨b9, 5, none⟩ = some (.int .u64 (bN z)) ∧ W.cell? ⟨b9, 6, none⟩ = some (.int .u64 z.length) ∧ W.cell? ⟨b11, 0, none⟩ = some (.int .i64 1) ∧ W.cell? ⟨b11, 1, none⟩ = some (.int .i64 0) ∧ W.cell? ⟨b11, 2, none⟩ = some (.int .i64 0) ∧ W.cell? ⟨b11, 3, none⟩ = some (.int .i64 0) ∧ W.cell? ⟨b11, 4, none⟩ = some (.int .i64 0) ∧ W.cell? ⟨b11, 5, none⟩ = some (.int .u64 (bN l)) ∧ W.cell? ⟨b11, 6, none⟩ = some (.int .u64 l.length)) (o : Obj) :
    (W.alloc o).cell? ⟨b9, 0, none⟩ = some (.int .i64 1) ∧ (W.alloc o).cell? ⟨b9, 1, none⟩ = some (.int .i64 0) ∧ (W.alloc o).cell? ⟨b9, 2, none⟩ = some (.int .i64 0) ∧ (W.alloc o).cell? ⟨b9, 3, none⟩ = some (.int .i64 0) ∧ (W.alloc o).cell? ⟨b9, 4, none⟩ = some (.int .i64 0) ∧ (W.alloc o).cell? ⟨b9, 5, none⟩ = some (.int .u64 (bN z)) ∧ (W.alloc o).cell? ⟨b9, 6, none⟩ = some (.int .u64 z.length) ∧ (W.alloc o).cell? ⟨b11, 0, none⟩ = some (.int .i64 1) ∧ (W.alloc o).cell? ⟨b11, 1, none⟩ = some (.int .i64 0) ∧ (W.alloc o).cell? ⟨b11, 2, none⟩ = some (.int .i64 0) ∧ (W.alloc o).cell? ⟨b11, 3, none⟩ = some (.int .i64 0) ∧ (W.alloc o).cell? ⟨b11, 4, none⟩ = some (.int .i64 0) ∧ (W.alloc o).cell? ⟨b11, 5, none⟩ = some (.int .u64 (bN l)) ∧ (W.alloc o).cell? ⟨b11, 6, none⟩ = some (.int .u64 l.length) := boxes_keep ((Below.refl _ _).alloc (Nat.le_refl _) o) h
set_option maxRecDepth 100000 in
set_option maxHeartbeats 16000000 in
theorem bpour_call {ahead : Bool} {s s' : Ar} {e e' h sm r : Int} (hp : Pour ahead s e h sm s' e' r) : ∀ (K : Nat → Prop) (w : World), BTre w K q p s e →
    Calls Try.prog 98 #[.pointer (some ⟨q, 0, none⟩), .int .i64 h, .int .i64 sm, .bool ahead] w fun o w' => o = .returned (.int .i64 r) ∧ BTre w' K q p s' e' ∧ Kept K w w' := by
  induction hp with
  | @leaf s s' e e' h sm r l z hl hz sn hh =>
    intro K w ha
    have c0 := ha.c0
    have H1 := fun w ha => Lib.hid (row_leaf (w := w) (K := fun b => K b ∨ b = q) (p := p) hz ha sn.fit)
    have H2 := fun w ha => Lib.hid (row_leaf (w := w) (K := fun b => K b ∨ b = q) (p := p) hl ha sn.fit)
    have HBl := fun w => Lib.hid (bbits_is l w hl.2.2)
    have HBz := fun w => Lib.hid (bbits_is z w hz.2.2)
    have l6 : (l.length : Int) ≤ 64 := by have := hl.2.2; omega
    have z6 : (z.length : Int) ≤ 64 := by have := hz.2.2; omega
    have SN := Lib.hid sn
    have HH := Lib.hid hh
    have Ha := Lib.hid ha
    clear hl hz sn hh ha
    go_enter Try.func98, Try.ntmps98
    go_wp2_with fail
    refine (H1 _ Ha.out.ars).out.mono ?_
    rintro o w1 ⟨rfl, ha1, hk1⟩
    have B1 := Lib.hid (hk1.alloc hk1.size (.cells #[.int .i64 1, .int .i64 0, .int .i64 0, .int .i64 0, .int .i64 0, .int .u64 (bN z), .int .u64 z.length] 47))
    have hx9 := Lib.hid (heap_alloc_new w1 (.cells #[.int .i64 1, .int .i64 0, .int .i64 0, .int .i64 0, .int .i64 0, .int .u64 (bN z), .int .u64 z.length] 47))
    have d0 := (Ha.out.below B1.out).c0
    clear ha1 hk1 c0
    go_wp2_with fail
    refine (H2 _ (Ha.out.below B1.out).ars).out.mono ?_
    rintro o w2 ⟨rfl, ha2, hk2⟩
    have B2 := Lib.hid ((B1.out.trans (hk2.mono B1.out.size)).alloc (Nat.le_trans B1.out.size hk2.size) (.cells #[.int .i64 1, .int .i64 0, .int .i64 0, .int .i64 0, .int .i64 0, .int .u64 (bN l), .int .u64 l.length] 47))
    have hx11 := heap_alloc_new w2 (.cells #[.int .i64 1, .int .i64 0, .int .i64 0, .int .i64 0, .int .i64 0, .int .u64 (bN l), .int .u64 l.length] 47)
    have hy9 := (Below.heap_alloc w2 (.cells #[.int .i64 1, .int .i64 0, .int .i64 0, .int .i64 0, .int .i64 0, .int .u64 (bN l), .int .u64 l.length] 47) _ (Nat.lt_of_lt_of_le (lt_heap hx9.out) hk2.size)).trans ((hk2.block _ (lt_heap hx9.out)).trans hx9.out)
    clear ha2 hk2 hx9 B1
    clear H1 H2
    go_upto_region 4 with fail
    generalize w2.alloc (.cells #[.int .i64 1, .int .i64 0, .int .i64 0, .int .i64 0, .int .i64 0, .int .u64 (bN l), .int .u64 l.length] 47) = w3 at *
    generalize w2.heap.size = b11 at *
    generalize w1.heap.size = b9 at *
    have y9 := Lib.hid hy9
    have y11 := Lib.hid hx11
    clear hy9 hx11
    have HS := Lib.hid (show w.heap.size ≤ w3.heap.size from B2.out.size)
    have S3 := Lib.hid (boxes_cells y9.out y11.out)
    clear y9 y11
    go_cut [13, 14] (fun b1 b2 W => ∃ g1 g2 : Nat, b1 = .pointer (some ⟨g1, 0, none⟩) ∧ b2 = .pointer (some ⟨g2, 0, none⟩) ∧ TwoL w3 l z g1 g2 W)
    case first =>
      rename_i Qx K1x h3 Kx h2 J0 K0 h1 h0
      clear h3 h2
      clear_value Qx
      have H0 := Lib.hid h0
      have H1 := Lib.hid h1
      clear h0 h1 HH Ha SN B2 d0 HS l6 z6
      refine wp_region_noPanic ?_
      refine wp_region_held_drew (S := fun w' => Below w3.heap.size w3 w') (by kernel_rfl) (Below.refl _ _).drew (fun hHeld => ?_)
      refine wpAnyH_take (i := 0) (v := (.agg #[.int .i64 1, .int .i64 0, .int .i64 0, .int .i64 0, .int .i64 0, .int .u64 (bN l), .int .u64 l.length])) rfl (by kernel_rfl) (by kernel_rfl) (by kernel_rfl) (fun _ _ _ h => h) (Or.inl ⟨by rfl, fun W hW => ?ld0⟩) hHeld ?r1
      case ld0 =>
        obtain ⟨a0, a1, a2, a3, a4, a5, a6, c0, c1, c2, c3, c4, c5, c6⟩ := boxes_keep hW S3.out
        go_simp
      try simp only [Act.put, List.setIfInBounds_toArray]
      refine wpAnyH_take (i := 2) (v := (.agg #[.int .i64 1, .int .i64 0, .int .i64 0, .int .i64 0, .int .i64 0, .int .u64 (bN z), .int .u64 z.length])) rfl (by kernel_rfl) (by kernel_rfl) (by kernel_rfl) (fun _ _ _ h => h) (Or.inl ⟨by rfl, fun W hW => ?ld2⟩) hHeld ?r2
      case ld2 =>
        obtain ⟨a0, a1, a2, a3, a4, a5, a6, c0, c1, c2, c3, c4, c5, c6⟩ := boxes_keep hW S3.out
        go_simp
      try simp only [Act.put]
      refine dag (w0 := w3) (vl := (.agg #[.int .u64 (bN l), .int .i64 l.length])) (vz := (.agg #[.int .u64 (bN z), .int .i64 z.length])) (n1 := (.agg #[.int .i64 1, .int .i64 0, .int .i64 0, .int .i64 0, .int .i64 0, .int .u64 (bN l), .int .u64 l.length])) (n3 := (.agg #[.int .i64 1, .int .i64 0, .int .i64 0, .int .i64 0, .int .i64 0, .int .u64 (bN z), .int .u64 z.length])) (o := (.cells #[.int .u64 0, .int .i64 0] 71)) (d1 := 39) (d3 := 41) (d4 := 13) (d5 := 14) (i1 := 38) (i3 := 40) (by decide) (by decide) (by decide) (by decide) (by decide) (by decide) (by decide) (by decide) (by decide) (by decide) (by decide) (by decide) (by decide) (by decide) ?hr ?h1 ?h3 ?h4 ?h5 ?hfin rfl rfl hHeld
      case hr =>
        intro b1 b3 b4 b5 h
        cases b1 <;> cases b3 <;> cases b4 <;> cases b5 <;> first | kernel_rfl | exact absurd (h rfl) (by decide)
      case h1 =>
        intro a W K ha hK
        refine wpOp_of rfl (by rfl) ?_
        go_simp
        refine (HBl _).out.mono ?_
        rintro e w' ⟨rfl, hb⟩
        exact hK w' hb
      case h3 =>
        intro a W K ha hK
        refine wpOp_of rfl (by rfl) ?_
        go_simp
        refine (HBz _).out.mono ?_
        rintro e w' ⟨rfl, hb⟩
        exact hK w' hb
      case h4 =>
        intro a W K hK
        refine wpOp_of rfl (by rfl) ?_
        go_simp
        exact hK
      case h5 =>
        intro a W K hK
        refine wpOp_of rfl (by rfl) ?_
        go_simp
        exact hK
      case hfin =>
        intro g4 g5 W hB f4 f5 ne l4 l5
        obtain ⟨⟨mc0, mc1, mcf⟩, ⟨me0, me1, mef⟩, mn1, mn2⟩ := cells_two f4
        obtain ⟨⟨nc0, nc1, ncf⟩, ⟨ne0, ne1, nef⟩, nn1, nn2⟩ := cells_two f5
        have ne2 := ne.symm
        unfold ptr
        have F4 := Lib.hid f4
        have F5 := Lib.hid f5
        have HB := Lib.hid hB
        clear f4 f5 hB me0 me1 mef ne0 ne1 nef mn1 mn2 nn1 nn2 hHeld S3
        try simp only [Act.put]
        refine wpAnyH_ready (rs := [6]) (by kernel_rfl) (by simp) ?_
        refine AllReadyH.cons rfl (fun K hK => ?_) AllReadyH.nil
        go_simp
        refine hK.out _ _ ((HB.out.setCell (p := ⟨g4, 0, none⟩) l4 _).setCell (p := ⟨g4, 1, none⟩) l4 _) (fun _ => ?_)
        clear hK K
        try simp only [List.setIfInBounds_toArray, List.set_cons_zero, List.set_cons_succ]
        refine wpAnyH_ready (rs := [7]) (by kernel_rfl) (by simp) ?_
        refine AllReadyH.cons rfl (fun K hK => ?_) AllReadyH.nil
        go_simp
        refine hK.out _ _ ((((HB.out.setCell (p := ⟨g4, 0, none⟩) l4 _).setCell (p := ⟨g4, 1, none⟩) l4 _).setCell (p := ⟨g5, 0, none⟩) l5 _).setCell (p := ⟨g5, 1, none⟩) l5 _) (fun _ => ?_)
        clear hK K
        try simp only [List.setIfInBounds_toArray, List.set_cons_zero, List.set_cons_succ]
        refine wpAnyH_done (by kernel_rfl) ?_ _
        refine NoPanic.normal ?_
        have h0 := H0.out
        have h1 := H1.out
        go_wp2_with fail
        go_meet
        case rel => exact ⟨g4, g5, rfl, rfl, two_end HB.out F4.out F5.out ne l4 l5⟩
    case rest =>
      obtain ⟨g1, g2, rfl, rfl, two⟩ := hcut
      have hB := B2.out.trans (two.below.mono HS.out)
      have l1 := lt_heap two.ba
      have l2 := lt_heap two.bb
      have z1 : w.heap.size ≤ g1 := Nat.le_trans HS.out two.g1
      have z2 : w.heap.size ≤ g2 := Nat.le_trans HS.out two.g2
      obtain ⟨K1, hK1⟩ : ∃ K1 : Nat → Prop, K1 = fun b => K b ∨ b = g1 ∨ b = g2 := ⟨_, rfl⟩
      have T0 := Lib.hid (Ha.out.newK (K' := K1) hB fun b hb => by
        rw [hK1] at hb
        rcases hb with hb | rfl | rfl
        · exact ⟨Nat.lt_of_lt_of_le (Ha.out.ars.lt b (.inl hb)) hB.size, .inl hb⟩
        · exact ⟨l1, .inr z1⟩
        · exact ⟨l2, .inr z2⟩)
      have kg1 := Lib.hid (show K1 g1 by rw [hK1]; exact .inr (.inl rfl))
      have kg2 := Lib.hid (show K1 g2 by rw [hK1]; exact .inr (.inr rfl))
      have hKK := Lib.hid (show ∀ b, K b → K1 b from fun b hb => by rw [hK1]; exact .inl hb)
      have HD := Lib.hid (bdrop2 (x := h) (y := sm) SN.out T0.out)
      have KB := Lib.hid (Kept.of_below hB K)
      have TA := Lib.hid two.ba
      have TB := Lib.hid two.bb
      have L1 := Lib.hid l1
      have L2 := Lib.hid l2
      have Z1 := Lib.hid z1
      have Z2 := Lib.hid z2
      have ne := two.ne
      have ne' := two.ne.symm
      clear hB l1 l2 z1 z2 hK1 two B2 HS S3 HBl HBz Ha SN d0
      go_wp2_with fail
      refine HD.out.mono ?_
      rintro o w4 ⟨rfl, h4, k4⟩
      have X1 := Lib.hid ((k4.block g1 L1.out kg1.out).trans TA.out)
      have X2 := Lib.hid ((k4.block g2 L2.out kg2.out).trans TB.out)
      have T4 := Lib.hid h4
      have K4 := Lib.hid (KB.out.trans (k4.mono fun b _ h => hKK.out b h))
      clear h4 k4 HD T0 TA TB L1 L2 KB
      obtain ⟨⟨mc0, mc1, mcf⟩, _, _, _⟩ := cells_two X1.out
      obtain ⟨⟨nc0, nc1, ncf⟩, _, _, _⟩ := cells_two X2.out
      cases ahead
      · have HC := Lib.hid (bhalves_call (w := w4) (K := K1) (q := q) (p := p) (a := l) (b := z) HH.out T4.out)
        clear HH
        go_wp2_with fail
        refine HC.out.mono ?_
        rintro o w5 ⟨rfl, h5, k5⟩
        go_wp2_with fail
        go_ret
        exact ⟨rfl, h5.more hKK.out, K4.out.trans (k5.mono fun b _ h => hKK.out b h)⟩
      · have T5 := Lib.hid ((((T4.out.put kg1.out 0 (.int .u64 (bN z))).put kg1.out 1 (.int .i64 z.length)).put kg2.out 0 (.int .u64 (bN l))).put kg2.out 1 (.int .i64 l.length))
        have K5 := Lib.hid ((((K4.out.setCell (p := ⟨g1, 0, none⟩) (.inr Z1.out) (.int .u64 (bN z))).setCell (p := ⟨g1, 1, none⟩) (.inr Z1.out) (.int .i64 z.length)).setCell (p := ⟨g2, 0, none⟩) (.inr Z2.out) (.int .u64 (bN l))).setCell (p := ⟨g2, 1, none⟩) (.inr Z2.out) (.int .i64 l.length))
        have HC := fun W hW => Lib.hid (bhalves_call (w := W) (K := K1) (q := q) (p := p) (a := z) (b := l) HH.out hW)
        clear HH
        go_wp2_with fail
        refine (HC _ T5.out).out.mono ?_
        rintro o w5 ⟨rfl, h5, k5⟩
        go_wp2_with fail
        go_ret
        exact ⟨rfl, h5.more hKK.out, K5.out.trans (k5.mono fun b _ h => hKK.out b h)⟩
  | @ahead s s1 s2 s' e e2 e' h sm x y p0 r z hah hz sn ho _ hf ih =>
    subst hah
    intro K w ha
    have c0 := ha.c0
    obtain ⟨m, o, v⟩ := ho.vw
    have H1 := fun w ha => Lib.hid (row_leaf (w := w) (K := fun b => K b ∨ b = q) (p := p) hz ha sn.fit)
    have H2 := fun w ha => Lib.hid (row_fork (w := w) (K := fun b => K b ∨ b = q) (p := p) v ha sn.fit)
    have HO := fun w ha => Lib.hid (bopen_is (w := w) (K := K) (q := q) (p := p) (e := e) ho ha)
    have IH := fun w ha => Lib.hid (ih K w ha)
    have HF := Lib.hid hf
    have Ha := Lib.hid ha
    clear v hz sn hf ih ha ho
    go_enter Try.func98, Try.ntmps98
    go_wp2_with fail
    refine (H1 _ Ha.out.ars).out.mono ?_
    rintro o w1 ⟨rfl, ha1, hk1⟩
    have B1 := Lib.hid (hk1.alloc hk1.size (.cells #[.int .i64 1, .int .i64 0, .int .i64 0, .int .i64 0, .int .i64 0, .int .u64 (bN z), .int .u64 z.length] 47))
    have d0 := (Ha.out.below B1.out).c0
    clear ha1 hk1 c0
    go_wp2_with fail
    refine (H2 _ (Ha.out.below B1.out).ars).out.mono ?_
    rintro o w2 ⟨rfl, ha2, hk2⟩
    have B2 := Lib.hid ((B1.out.trans (hk2.mono B1.out.size)).alloc (Nat.le_trans B1.out.size hk2.size) (.cells #[.int .i64 2, .int .i64 x, .int .i64 y, .int .i64 0, .int .i64 0, .int .u64 m, .int .u64 o] 47))
    clear ha2 hk2 B1
    go_wp2_with fail
    refine (HO _ (Ha.out.below B2.out)).out.mono ?_
    rintro o w3 ⟨rfl, h3, k3⟩
    have T3 := Lib.hid h3
    have K3 := Lib.hid ((Kept.of_below B2.out K).trans k3)
    clear h3 k3 B2 Ha
    go_wp2_with fail
    refine (IH _ T3.out).out.mono ?_
    rintro o w4 ⟨rfl, h4, k4⟩
    have T4 := Lib.hid h4
    have K4 := Lib.hid (K3.out.trans k4)
    clear h4 k4 T3 K3
    go_wp2_with fail
    refine (bfork_walk HF.out T4.out).mono ?_
    rintro o w5 ⟨rfl, h5, k5⟩
    go_wp2_with fail
    go_ret
    exact ⟨rfl, h5, K4.out.trans k5⟩
  | @behind s s1 s2 s' e e2 e' h sm x y p0 r z hah hz sn ho _ hf ih =>
    subst hah
    intro K w ha
    have c0 := ha.c0
    obtain ⟨m, o, v⟩ := ho.vw
    have H1 := fun w ha => Lib.hid (row_leaf (w := w) (K := fun b => K b ∨ b = q) (p := p) hz ha sn.fit)
    have H2 := fun w ha => Lib.hid (row_fork (w := w) (K := fun b => K b ∨ b = q) (p := p) v ha sn.fit)
    have HO := fun w ha => Lib.hid (bopen_is (w := w) (K := K) (q := q) (p := p) (e := e) ho ha)
    have IH := fun w ha => Lib.hid (ih K w ha)
    have HF := Lib.hid hf
    have Ha := Lib.hid ha
    clear v hz sn hf ih ha ho
    go_enter Try.func98, Try.ntmps98
    go_wp2_with fail
    refine (H1 _ Ha.out.ars).out.mono ?_
    rintro o w1 ⟨rfl, ha1, hk1⟩
    have B1 := Lib.hid (hk1.alloc hk1.size (.cells #[.int .i64 1, .int .i64 0, .int .i64 0, .int .i64 0, .int .i64 0, .int .u64 (bN z), .int .u64 z.length] 47))
    have d0 := (Ha.out.below B1.out).c0
    clear ha1 hk1 c0
    go_wp2_with fail
    refine (H2 _ (Ha.out.below B1.out).ars).out.mono ?_
    rintro o w2 ⟨rfl, ha2, hk2⟩
    have B2 := Lib.hid ((B1.out.trans (hk2.mono B1.out.size)).alloc (Nat.le_trans B1.out.size hk2.size) (.cells #[.int .i64 2, .int .i64 x, .int .i64 y, .int .i64 0, .int .i64 0, .int .u64 m, .int .u64 o] 47))
    clear ha2 hk2 B1
    go_wp2_with fail
    refine (HO _ (Ha.out.below B2.out)).out.mono ?_
    rintro o w3 ⟨rfl, h3, k3⟩
    have T3 := Lib.hid h3
    have K3 := Lib.hid ((Kept.of_below B2.out K).trans k3)
    clear h3 k3 B2 Ha
    go_wp2_with fail
    refine (IH _ T3.out).out.mono ?_
    rintro o w4 ⟨rfl, h4, k4⟩
    have T4 := Lib.hid h4
    have K4 := Lib.hid (K3.out.trans k4)
    clear h4 k4 T3 K3
    go_wp2_with fail
    refine (bfork_walk HF.out T4.out).mono ?_
    rintro o w5 ⟨rfl, h5, k5⟩
    go_wp2_with fail
    go_ret
    exact ⟨rfl, h5, K4.out.trans k5⟩
end
end Go.Proofs.Ytdipgcbppggdhaa
