/- Two calls that follow one another, and two allocs that may come up at any time between: whatever order, the state is the same but for the new addresses. Of any program. -/
import Derived.Test.YtjfeocoengheaaaGpA
import Derived.Deep.RegionHeld3
namespace Go.Proofs.Ytjfeocoengheaaa
set_option maxRecDepth 100000
open Go.RowKit

/-- A temporary that has its value, or not yet. -/
def po (a : Act) (d : Nat) : Option Value → Act
  | none => a
  | some v => a.put (some d) v
theorem po_put {a : Act} {d d' : Nat} (h : d ≠ d') (x : Option Value) (v : Value) : (po a d x).put (some d') v = po (a.put (some d') v) d x := by
  cases x with
  | none => rfl
  | some u => exact Act.put_comm a (x := some d) (y := some d') u v fun e he h2 => h (Option.some.inj (he.trans h2.symm))
def fr (a : Act) (d1 d3 d4 d5 : Nat) (x1 x3 x4 x5 : Option Value) : Act := po (po (po (po a d1 x1) d3 x3) d4 x4) d5 x5
theorem put_get {a : Act} {d i : Nat} (h : d ≠ i) (v : Value) : (a.put (some d) v).tmps.getD i undef = a.tmps.getD i undef := by
  show (a.tmps.setIfInBounds d v).getD i undef = _
  simp only [Array.getD_eq_getD_getElem?]
  rw [Array.getElem?_setIfInBounds_ne h]
theorem po_get {a : Act} {d i : Nat} (h : d ≠ i) (x : Option Value) : (po a d x).tmps.getD i undef = a.tmps.getD i undef := by
  cases x with
  | none => rfl
  | some v => exact put_get h v
section
variable {P : Program} {ops : Array Oper} {Q : Exit → Act → World → Prop}
def ptr (g : Nat) : Value := .pointer (some ⟨g, 0, none⟩)
def opt (b : Bool) (v : Value) : Option Value := if b then some v else none
def lacks (b1 b3 b4 b5 : Bool) : Nat := (if b1 then 0 else 1) + (if b3 then 0 else 1) + (if b4 then 0 else 1) + (if b5 then 0 else 1)
theorem dag {a0 : Act} {w0 : World} {vl vz n1 n3 : Value} {o : Obj} {d1 d3 d4 d5 i1 i3 : Nat}
    (e1 : d1 ≠ d3) (e2 : d1 ≠ d4) (e3 : d1 ≠ d5) (e4 : d3 ≠ d4) (e5 : d3 ≠ d5) (e6 : d4 ≠ d5)
    (m1 : d1 ≠ i1) (m2 : d3 ≠ i1) (m3 : d4 ≠ i1) (m4 : d5 ≠ i1) (m5 : d1 ≠ i3) (m6 : d3 ≠ i3) (m7 : d4 ≠ i3) (m8 : d5 ≠ i3)
    (hr : ∀ b1 b3 b4 b5 : Bool, (b3 = true → b1 = true) → Region.ready .any ops #[true, b1, true, b3, b4, b5, false, false] = (if b1 then [] else [1]) ++ (if b1 && !b3 then [3] else []) ++ (if b4 then [] else [4]) ++ (if b5 then [] else [5]) ++ (if b1 && b3 && b4 && b5 then [6] else []))
    (h1 : ∀ (a : Act) (w : World) (K : Act → World → Prop), a.tmps.getD i1 undef = n1 → (∀ w', Below w.heap.size w w' → K (a.put (some d1) vl) w') → wpOp P ops Q 1 K a w)
    (h3 : ∀ (a : Act) (w : World) (K : Act → World → Prop), a.tmps.getD i3 undef = n3 → (∀ w', Below w.heap.size w w' → K (a.put (some d3) vz) w') → wpOp P ops Q 3 K a w)
    (h4 : ∀ (a : Act) (w : World) (K : Act → World → Prop), K (a.put (some d4) (ptr w.heap.size)) (w.alloc o) → wpOp P ops Q 4 K a w)
    (h5 : ∀ (a : Act) (w : World) (K : Act → World → Prop), K (a.put (some d5) (ptr w.heap.size)) (w.alloc o) → wpOp P ops Q 5 K a w)
    (hfin : ∀ (g4 g5 : Nat) (w : World), Below w0.heap.size w0 w → w.heap[g4]? = some o → w.heap[g5]? = some o → g4 ≠ g5 → w0.heap.size ≤ g4 → w0.heap.size ≤ g5 →
      wpAnyH P .any ops Q (fun w => Below w0.heap.size w0 w) 2 #[true, true, true, true, true, true, false, false] ((((a0.put (some d1) vl).put (some d3) vz).put (some d4) (ptr g4)).put (some d5) (ptr g5)) w)
    (k1 : a0.tmps.getD i1 undef = n1) (k3 : a0.tmps.getD i3 undef = n3) {w : World} (hw : Below w0.heap.size w0 w) :
    wpAnyH P .any ops Q (fun w => Below w0.heap.size w0 w) 6 #[true, false, true, false, false, false, false, false] a0 w := by
  have main : ∀ (n : Nat) (b1 b3 b4 b5 : Bool) (a : Act) (w : World) (g4 g5 : Nat), (b3 = true → b1 = true) → n = lacks b1 b3 b4 b5 → a = fr a0 d1 d3 d4 d5 (opt b1 vl) (opt b3 vz) (opt b4 (ptr g4)) (opt b5 (ptr g5)) → Below w0.heap.size w0 w →
      (b4 = true → w0.heap.size ≤ g4 ∧ w.heap[g4]? = some o) → (b5 = true → w0.heap.size ≤ g5 ∧ w.heap[g5]? = some o) → (b4 = true → b5 = true → g4 ≠ g5) →
      wpAnyH P .any ops Q (fun w => Below w0.heap.size w0 w) (n + 2) #[true, b1, true, b3, b4, b5, false, false] a w := by
    intro n
    induction n with
    | zero =>
      intro b1 b3 b4 b5 a w g4 g5 _ hn ha hB f4 f5 ne
      cases b1 <;> cases b3 <;> cases b4 <;> cases b5 <;> simp [lacks] at hn
      subst ha
      obtain ⟨u1, u2⟩ := f4 rfl
      obtain ⟨v1, v2⟩ := f5 rfl
      exact hfin g4 g5 w hB u2 v2 (ne rfl rfl) u1 v1
    | succ n ih =>
      intro b1 b3 b4 b5 a w g4 g5 h13 hn ha hB f4 f5 ne
      have keep : ∀ {w' : World}, Below w.heap.size w w' → Below w0.heap.size w0 w' ∧ (b4 = true → w0.heap.size ≤ g4 ∧ w'.heap[g4]? = some o) ∧ (b5 = true → w0.heap.size ≤ g5 ∧ w'.heap[g5]? = some o) := fun {w'} hb =>
        ⟨hB.trans (hb.mono hB.size), fun e => ⟨(f4 e).1, (hb.block g4 (lt_heap (f4 e).2)).trans (f4 e).2⟩, fun e => ⟨(f5 e).1, (hb.block g5 (lt_heap (f5 e).2)).trans (f5 e).2⟩⟩
      have q1 : a.tmps.getD i1 undef = n1 := by
        rw [ha]; unfold fr
        rw [po_get m4, po_get m3, po_get m2, po_get m1]; exact k1
      have q3 : a.tmps.getD i3 undef = n3 := by
        rw [ha]; unfold fr
        rw [po_get m8, po_get m7, po_get m6, po_get m5]; exact k3
      have hrr := hr b1 b3 b4 b5 h13
      refine wpAnyH_all hrr (by cases b1 <;> cases b3 <;> cases b4 <;> cases b5 <;> simp [lacks] at hn ⊢) fun i hi => ?_
      simp only [List.mem_append] at hi
      rcases hi with (((hi | hi) | hi) | hi) | hi
      · cases b1 with
        | true => simp at hi
        | false =>
          obtain rfl : i = 1 := by simpa using hi
          have b3f : b3 = false := by cases b3 with
            | false => rfl
            | true => exact absurd (h13 rfl) (by decide)
          subst b3f
          refine h1 a w _ q1 fun w' hb => ?_
          obtain ⟨z1, z2, z3⟩ := keep hb
          refine ⟨z1, ih true false b4 b5 _ w' g4 g5 (fun _ => rfl) (by simp only [lacks] at hn ⊢; simp at hn ⊢; omega) ?_ z1 z2 z3 ne⟩
          rw [ha]
          unfold fr
          rw [po_put e3.symm, po_put e2.symm, po_put e1.symm]
          rfl
      · by_cases hb : (b1 && !b3) = true
        · obtain ⟨c1, c2⟩ : b1 = true ∧ b3 = false := by simpa using hb
          subst c1 c2
          obtain rfl : i = 3 := by simpa using hi
          refine h3 a w _ q3 fun w' hb => ?_
          obtain ⟨z1, z2, z3⟩ := keep hb
          refine ⟨z1, ih true true b4 b5 _ w' g4 g5 (fun _ => rfl) (by simp only [lacks] at hn ⊢; simp at hn ⊢; omega) ?_ z1 z2 z3 ne⟩
          rw [ha]
          unfold fr
          rw [po_put e5.symm, po_put e4.symm]
          rfl
        · rw [if_neg hb] at hi; cases hi
      · cases b4 with
        | true => simp at hi
        | false =>
          obtain rfl : i = 4 := by simpa using hi
          refine h4 a w _ ?_
          have hb : Below w.heap.size w (w.alloc o) := (Below.refl _ _).alloc (Nat.le_refl _) o
          obtain ⟨z1, _, z3⟩ := keep hb
          refine ⟨z1, ih b1 b3 true b5 _ _ w.heap.size g5 h13 (by simp only [lacks] at hn ⊢; simp at hn ⊢; omega) ?_ z1 (fun _ => ⟨hB.size, heap_alloc_new _ _⟩) z3 fun _ e => ?_⟩
          · rw [ha]
            unfold fr
            rw [po_put e6.symm]
            rfl
          · have := lt_heap (f5 e).2
            omega
      · cases b5 with
        | true => simp at hi
        | false =>
          obtain rfl : i = 5 := by simpa using hi
          refine h5 a w _ ?_
          have hb : Below w.heap.size w (w.alloc o) := (Below.refl _ _).alloc (Nat.le_refl _) o
          obtain ⟨z1, z2, _⟩ := keep hb
          refine ⟨z1, ih b1 b3 b4 true _ _ g4 w.heap.size h13 (by simp only [lacks] at hn ⊢; simp at hn ⊢; omega) ?_ z1 z2 (fun _ => ⟨hB.size, heap_alloc_new _ _⟩) fun e _ => ?_⟩
          · rw [ha]
            rfl
          · have := lt_heap (f4 e).2
            omega
      · by_cases hb : (b1 && b3 && b4 && b5) = true
        · obtain ⟨⟨⟨c1, c2⟩, c3⟩, c4⟩ : ((b1 = true ∧ b3 = true) ∧ b4 = true) ∧ b5 = true := by simpa using hb
          subst c1 c2 c3 c4
          simp [lacks] at hn
        · rw [if_neg hb] at hi; cases hi
  exact main 4 false false false false a0 w 0 0 (fun h => by cases h) rfl rfl hw (fun h => by cases h) (fun h => by cases h) (fun h => by cases h)
end
end Go.Proofs.Ytjfeocoengheaaa
