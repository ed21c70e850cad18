/- Two calls that follow one another, and two allocs that may come up at any time between: whatever order, the state is the same but for the new addresses. Of any program. -/
import Derived.Test.YtcdmebjggdhhdaaMem
import Derived.Deep.RegionHeld3
import Derived.Test.YtcdmebjggdhhdaaLs3
import Derived.Test.YtcdmebjggdhhdaaRe
import Derived.Laws.OwnMore
import Derived.Test.YtcdmebjggdhhdaaT2
import Derived.Test.YtcdmebjggdhhdaaM10
namespace Go.Proofs.Ytcdmebjggdhhdaa
open Go.RowKit

/-- A temporary that has its value, or not yet. -/
def po (a : Act) (d : Nat) : Option Value → Act
  | none => a
  | some v => a.put (some d) v
theorem po_put {a : Act} {d d' : Nat} (h : d ≠ d') (x : Option Value) (v : Value) : (po a d x).put (some d') v = po (a.put (some d') v) d x := by
  cases x with
  | none => rfl
  | some u => exact Act.put_comm a (x := some d) (y := some d') u v fun e he h2 => h (Option.some.inj (he.trans h2.symm))
def fr (a : Act) (d1 d3 d4 d5 : Nat) (x1 x3 x4 x5 : Option Value) : Act := po (po (po (po a d1 x1) d3 x3) d4 x4) d5 x5
theorem put_get {a : Act} {d i : Nat} (h : d ≠ i) (v : Value) : (a.put (some d) v).tmps.getD i undef = a.tmps.getD i undef := by
  show (a.tmps.setIfInBounds d v).getD i undef = _
  simp only [Array.getD_eq_getD_getElem?]
  rw [Array.getElem?_setIfInBounds_ne h]
theorem po_get {a : Act} {d i : Nat} (h : d ≠ i) (x : Option Value) : (po a d x).tmps.getD i undef = a.tmps.getD i undef := by
  cases x with
  | none => rfl
  | some v => exact put_get h v
section
variable {P : Program} {ops : Array Oper} {Q : Exit → Act → World → Prop}
def ptr (g : Nat) : Value := .pointer (some ⟨g, 0, none⟩)
def opt (b : Bool) (v : Value) : Option Value := if b then some v else none
def lacks (b1 b3 b4 b5 : Bool) : Nat := (if b1 then 0 else 1) + (if b3 then 0 else 1) + (if b4 then 0 else 1) + (if b5 then 0 else 1)
theorem dag {a0 : Act} {w0 : World} {vl vz n1 n3 : Value} {o : Obj} {d1 d3 d4 d5 i1 i3 : Nat}
    (e1 : d1 ≠ d3) (e2 : d1 ≠ d4) (e3 : d1 ≠ d5) (e4 : d3 ≠ d4) (e5 : d3 ≠ d5) (e6 : d4 ≠ d5)
    (m1 : d1 ≠ i1) (m2 : d3 ≠ i1) (m3 : d4 ≠ i1) (m4 : d5 ≠ i1) (m5 : d1 ≠ i3) (m6 : d3 ≠ i3) (m7 : d4 ≠ i3) (m8 : d5 ≠ i3)
    (hr : ∀ b1 b3 b4 b5 : Bool, (b3 = true → b1 = true) → Region.ready .any ops #[true, b1, true, b3, b4, b5, false, false] = (if b1 then [] else [1]) ++ (if b1 && !b3 then [3] else []) ++ (if b4 then [] else [4]) ++ (if b5 then [] else [5]) ++ (if b1 && b3 && b4 && b5 then [6] else []))
    (h1 : ∀ (a : Act) (w : World) (K : Act → World → Prop), a.tmps.getD i1 undef = n1 → (∀ w', Below w.heap.size w w' → K (a.put (some d1) vl) w') → wpOp P ops Q 1 K a w)
    (h3 : ∀ (a : Act) (w : World) (K : Act → World → Prop), a.tmps.getD i3 undef = n3 → (∀ w', Below w.heap.size w w' → K (a.put (some d3) vz) w') → wpOp P ops Q 3 K a w)
    (h4 : ∀ (a : Act) (w : World) (K : Act → World → Prop), K (a.put (some d4) (ptr w.heap.size)) (w.alloc o) → wpOp P ops Q 4 K a w)
    (h5 : ∀ (a : Act) (w : World) (K : Act → World → Prop), K (a.put (some d5) (ptr w.heap.size)) (w.alloc o) → wpOp P ops Q 5 K a w)
    (hfin : ∀ (g4 g5 : Nat) (w : World), Below w0.heap.size w0 w → w.heap[g4]? = some o → w.heap[g5]? = some o → g4 ≠ g5 → w0.heap.size ≤ g4 → w0.heap.size ≤ g5 →
      wpAnyH P .any ops Q (fun w => Below w0.heap.size w0 w) 2 #[true, true, true, true, true, true, false, false] ((((a0.put (some d1) vl).put (some d3) vz).put (some d4) (ptr g4)).put (some d5) (ptr g5)) w)
    (k1 : a0.tmps.getD i1 undef = n1) (k3 : a0.tmps.getD i3 undef = n3) {w : World} (hw : Below w0.heap.size w0 w) :
    wpAnyH P .any ops Q (fun w => Below w0.heap.size w0 w) 6 #[true, false, true, false, false, false, false, false] a0 w := by
  have main : ∀ (n : Nat) (b1 b3 b4 b5 : Bool) (a : Act) (w : World) (g4 g5 : Nat), (b3 = true → b1 = true) → n = lacks b1 b3 b4 b5 → a = fr a0 d1 d3 d4 d5 (opt b1 vl) (opt b3 vz) (opt b4 (ptr g4)) (opt b5 (ptr g5)) → Below w0.heap.size w0 w →
      (b4 = true → w0.heap.size ≤ g4 ∧ w.heap[g4]? = some o) → (b5 = true → w0.heap.size ≤ g5 ∧ w.heap[g5]? = some o) → (b4 = true → b5 = true → g4 ≠ g5) →
      wpAnyH P .any ops Q (fun w => Below w0.heap.size w0 w) (n + 2) #[true, b1, true, b3, b4, b5, false, false] a w := by
    intro n
    induction n with
    | zero =>
      intro b1 b3 b4 b5 a w g4 g5 _ hn ha hB f4 f5 ne
      cases b1 <;> cases b3 <;> cases b4 <;> cases b5 <;> simp [lacks] at hn
      subst ha
      obtain ⟨u1, u2⟩ := f4 rfl
      obtain ⟨v1, v2⟩ := f5 rfl
      exact hfin g4 g5 w hB u2 v2 (ne rfl rfl) u1 v1
    | succ n ih =>
      intro b1 b3 b4 b5 a w g4 g5 h13 hn ha hB f4 f5 ne
      have keep : ∀ {w' : World}, Below w.heap.size w w' → Below w0.heap.size w0 w' ∧ (b4 = true → w0.heap.size ≤ g4 ∧ w'.heap[g4]? = some o) ∧ (b5 = true → w0.heap.size ≤ g5 ∧ w'.heap[g5]? = some o) := fun {w'} hb =>
        ⟨hB.trans (hb.mono hB.size), fun e => ⟨(f4 e).1, (hb.block g4 (lt_heap (f4 e).2)).trans (f4 e).2⟩, fun e => ⟨(f5 e).1, (hb.block g5 (lt_heap (f5 e).2)).trans (f5 e).2⟩⟩
      have q1 : a.tmps.getD i1 undef = n1 := by
        rw [ha]; unfold fr
        rw [po_get m4, po_get m3, po_get m2, po_get m1]; exact k1
      have q3 : a.tmps.getD i3 undef = n3 := by
        rw [ha]; unfold fr
        rw [po_get m8, po_get m7, po_get m6, po_get m5]; exact k3
      have hrr := hr b1 b3 b4 b5 h13
      refine wpAnyH_all hrr (by cases b1 <;> cases b3 <;> cases b4 <;> cases b5 <;> simp [lacks] at hn ⊢) fun i hi => ?_
      simp only [List.mem_append] at hi
      rcases hi with (((hi | hi) | hi) | hi) | hi
      · cases b1 with
        | true => simp at hi
        | false =>
          obtain rfl : i = 1 := by simpa using hi
          have b3f : b3 = false := by cases b3 with
            | false => rfl
            | true => exact absurd (h13 rfl) (by decide)
          subst b3f
          refine h1 a w _ q1 fun w' hb => ?_
          obtain ⟨z1, z2, z3⟩ := keep hb
          refine ⟨z1, ih true false b4 b5 _ w' g4 g5 (fun _ => rfl) (by simp only [lacks] at hn ⊢; simp at hn ⊢; omega) ?_ z1 z2 z3 ne⟩
          rw [ha]
          unfold fr
          rw [po_put e3.symm, po_put e2.symm, po_put e1.symm]
          rfl
      · by_cases hb : (b1 && !b3) = true
        · obtain ⟨c1, c2⟩ : b1 = true ∧ b3 = false := by simpa using hb
          subst c1 c2
          obtain rfl : i = 3 := by simpa using hi
          refine h3 a w _ q3 fun w' hb => ?_
          obtain ⟨z1, z2, z3⟩ := keep hb
          refine ⟨z1, ih true true b4 b5 _ w' g4 g5 (fun _ => rfl) (by simp only [lacks] at hn ⊢; simp at hn ⊢; omega) ?_ z1 z2 z3 ne⟩
          rw [ha]
          unfold fr
          rw [po_put e5.symm, po_put e4.symm]
          rfl
        · rw [if_neg hb] at hi; cases hi
      · cases b4 with
        | true => simp at hi
        | false =>
          obtain rfl : i = 4 := by simpa using hi
          refine h4 a w _ ?_
          have hb : Below w.heap.size w (w.alloc o) := (Below.refl _ _).alloc (Nat.le_refl _) o
          obtain ⟨z1, _, z3⟩ := keep hb
          refine ⟨z1, ih b1 b3 true b5 _ _ w.heap.size g5 h13 (by simp only [lacks] at hn ⊢; simp at hn ⊢; omega) ?_ z1 (fun _ => ⟨hB.size, heap_alloc_new _ _⟩) z3 fun _ e => ?_⟩
          · rw [ha]
            unfold fr
            rw [po_put e6.symm]
            rfl
          · have := lt_heap (f5 e).2
            omega
      · cases b5 with
        | true => simp at hi
        | false =>
          obtain rfl : i = 5 := by simpa using hi
          refine h5 a w _ ?_
          have hb : Below w.heap.size w (w.alloc o) := (Below.refl _ _).alloc (Nat.le_refl _) o
          obtain ⟨z1, z2, _⟩ := keep hb
          refine ⟨z1, ih b1 b3 b4 true _ _ g4 w.heap.size h13 (by simp only [lacks] at hn ⊢; simp at hn ⊢; omega) ?_ z1 z2 (fun _ => ⟨hB.size, heap_alloc_new _ _⟩) fun e _ => ?_⟩
          · rw [ha]
            rfl
          · have := lt_heap (f4 e).2
            omega
      · by_cases hb : (b1 && b3 && b4 && b5) = true
        · obtain ⟨⟨⟨c1, c2⟩, c3⟩, c4⟩ : ((b1 = true ∧ b3 = true) ∧ b4 = true) ∧ b5 = true := by simpa using hb
          subst c1 c2 c3 c4
          simp [lacks] at hn
        · rw [if_neg hb] at hi; cases hi
  exact main 4 false false false false a0 w 0 0 (fun h => by cases h) rfl rfl hw (fun h => by cases h) (fun h => by cases h) (fun h => by cases h)
end
end Go.Proofs.Ytcdmebjggdhhdaa
namespace Go.Proofs.Ytcdmebjggdhhdaa
open Go.RowKit

/-- A step that writes own blocks alone. -/
structure Grew (w w' : World) (B : Nat) (k k' : Nat → Prop) : Prop where
  more : ∀ b, k b → k' b
  new : ∀ b, k' b → b < w'.heap.size ∧ (k b ∨ w.heap.size ≤ b)
  size : w.heap.size ≤ w'.heap.size
  same : ∀ b, b < w.heap.size → ¬ k b → w'.heap[b]? = w.heap[b]?
  below : Below B w w'
theorem PushedS.grew {w w' : World} {B : Nat} {K K' : Nat → Prop} {v' : Value} {xs : List Int} (h : PushedS w w' B K K' v' xs) : Grew w w' B K K' := ⟨h.more, h.new, h.size, h.same, h.below⟩
theorem Grew.alloc (w : World) (B : Nat) (hB : B ≤ w.heap.size) (k : Nat → Prop) (hk : ∀ b, k b → b < w.heap.size) (o : Obj) : Grew w (w.alloc o) B k (fun b => k b ∨ b = w.heap.size) :=
  ⟨fun _ h => .inl h, fun b h => by
    have : (w.alloc o).heap.size = w.heap.size + 1 := by simp
    rcases h with h | rfl
    · exact ⟨by have := hk b h; omega, .inl h⟩
    · exact ⟨by omega, .inr (Nat.le_refl _)⟩, by simp, fun b hb _ => Below.heap_alloc w o b hb, (Below.refl _ _).alloc hB o⟩
/-- What the two chains have of the heap. -/
structure Pair2 (w0 : World) (B : Nat) (j1 j2 k1 k2 : Nat → Prop) (w : World) : Prop where
  apart : ∀ b, k1 b → ¬ k2 b
  lt1 : ∀ b, k1 b → b < w.heap.size
  lt2 : ∀ b, k2 b → b < w.heap.size
  new1 : ∀ b, k1 b → j1 b ∨ w0.heap.size ≤ b
  new2 : ∀ b, k2 b → j2 b ∨ w0.heap.size ≤ b
  size : w0.heap.size ≤ w.heap.size
  same : ∀ b, b < w0.heap.size → ¬ j1 b → ¬ j2 b → w.heap[b]? = w0.heap[b]?
  below : Below B w0 w
theorem Pair2.swap {w0 w : World} {B : Nat} {j1 j2 k1 k2 : Nat → Prop} (h : Pair2 w0 B j1 j2 k1 k2 w) : Pair2 w0 B j2 j1 k2 k1 w := ⟨fun b h2 h1 => h.apart b h1 h2, h.lt2, h.lt1, h.new2, h.new1, h.size, fun b hb a c => h.same b hb c a, h.below⟩
theorem Pair2.step1 {w0 w w' : World} {B : Nat} {j1 j2 k1 k2 k' : Nat → Prop} (h : Pair2 w0 B j1 j2 k1 k2 w) (g : Grew w w' B k1 k') : Pair2 w0 B j1 j2 k' k2 w' ∧ ∀ b, b < w.heap.size → k2 b → w'.heap[b]? = w.heap[b]? := by
  refine ⟨⟨fun b h1 h2 => ?_, fun b h1 => (g.new b h1).1, fun b h2 => Nat.lt_of_lt_of_le (h.lt2 b h2) g.size, fun b h1 => ?_, h.new2, Nat.le_trans h.size g.size, fun b hb a c => ?_, h.below.trans g.below⟩, fun b hb h2 => g.same b hb fun h1 => h.apart b h1 h2⟩
  · rcases (g.new b h1).2 with x | x
    · exact h.apart b x h2
    · have := h.lt2 b h2; omega
  · rcases (g.new b h1).2 with x | x
    · exact h.new1 b x
    · exact .inr (Nat.le_trans h.size x)
  · rw [g.same b (Nat.lt_of_lt_of_le hb h.size) fun h1 => ?_]
    · exact h.same b hb a c
    · rcases h.new1 b h1 with x | x
      · exact a x
      · omega
section
variable {P : Program} {ops : Array Oper} {Q : Exit → Act → World → Prop}
def lack4 (b1 b2 b3 b4 : Bool) : Nat := (if b1 then 0 else 1) + (if b2 then 0 else 1) + (if b3 then 0 else 1) + (if b4 then 0 else 1)
theorem put_at {a : Act} {d : Nat} (h : d < a.tmps.size) (v : Value) : (a.put (some d) v).tmps.getD d undef = v := by
  show (a.tmps.setIfInBounds d v).getD d undef = v
  simp [Array.getD_eq_getD_getElem?, h]
theorem po_size (a : Act) (d : Nat) (x : Option Value) : (po a d x).tmps.size = a.tmps.size := by
  cases x with
  | none => rfl
  | some v => show (a.tmps.setIfInBounds d v).size = _; simp
theorem chains {a0 : Act} {w0 : World} {B : Nat} {j1 j2 : Nat → Prop} {d1 d2 d3 d4 i1 i2 i3 i4 m : Nat} {L : Bool → Bool → Bool → Bool → Array Bool} {R : Bool → Bool → Bool → Bool → List Nat} {S : World → Prop}
    {P1 P2 : Option Value → Option Value → (Nat → Prop) → World → Prop}
    (hB : B ≤ w0.heap.size) (hS : ∀ k1 k2 w, Pair2 w0 B j1 j2 k1 k2 w → S w)
    (e12 : d1 ≠ d2) (e13 : d1 ≠ d3) (e14 : d1 ≠ d4) (e23 : d2 ≠ d3) (e24 : d2 ≠ d4) (e34 : d3 ≠ d4) (z1 : d1 < a0.tmps.size) (z3 : d3 < a0.tmps.size)
    (hr : ∀ b1 b2 b3 b4 : Bool, (b2 = true → b1 = true) → (b4 = true → b3 = true) → Region.ready .any ops (L b1 b2 b3 b4) = R b1 b2 b3 b4)
    (hR : ∀ b1 b2 b3 b4 : Bool, (b2 = true → b1 = true) → (b4 = true → b3 = true) → (b1 && b2 && b3 && b4) = false → R b1 b2 b3 b4 ≠ [] ∧ ∀ i, i ∈ R b1 b2 b3 b4 → (i = i1 ∧ b1 = false) ∨ (i = i2 ∧ b1 = true ∧ b2 = false) ∨ (i = i3 ∧ b3 = false) ∨ (i = i4 ∧ b3 = true ∧ b4 = false))
    (s1 : ∀ y z t, (L false y z t).setIfInBounds i1 true = L true y z t) (s2 : ∀ x z t, (L x false z t).setIfInBounds i2 true = L x true z t) (s3 : ∀ x y t, (L x y false t).setIfInBounds i3 true = L x y true t) (s4 : ∀ x y z, (L x y z false).setIfInBounds i4 true = L x y z true)
    (st1 : ∀ x y k w w', P1 x y k w → (∀ b, k b → b < w.heap.size) → (∀ b, b < w.heap.size → k b → w'.heap[b]? = w.heap[b]?) → P1 x y k w')
    (st2 : ∀ x y k w w', P2 x y k w → (∀ b, k b → b < w.heap.size) → (∀ b, b < w.heap.size → k b → w'.heap[b]? = w.heap[b]?) → P2 x y k w')
    (h1 : ∀ (a : Act) (w : World) (k : Nat → Prop) (K : Act → World → Prop), (∀ i, i ≠ d1 → i ≠ d2 → i ≠ d3 → i ≠ d4 → a.tmps.getD i undef = a0.tmps.getD i undef) → S w → B ≤ w.heap.size → (∀ b, k b → b < w.heap.size) → P1 none none k w → (∀ v w' k', P1 (some v) none k' w' → Grew w w' B k k' → K (a.put (some d1) v) w') → wpOp P ops Q i1 K a w)
    (h2 : ∀ (a : Act) (w : World) (k : Nat → Prop) (v : Value) (K : Act → World → Prop), (∀ i, i ≠ d1 → i ≠ d2 → i ≠ d3 → i ≠ d4 → a.tmps.getD i undef = a0.tmps.getD i undef) → a.tmps.getD d1 undef = v → S w → B ≤ w.heap.size → (∀ b, k b → b < w.heap.size) → P1 (some v) none k w → (∀ v' w' k', P1 (some v) (some v') k' w' → Grew w w' B k k' → K (a.put (some d2) v') w') → wpOp P ops Q i2 K a w)
    (h3 : ∀ (a : Act) (w : World) (k : Nat → Prop) (K : Act → World → Prop), (∀ i, i ≠ d1 → i ≠ d2 → i ≠ d3 → i ≠ d4 → a.tmps.getD i undef = a0.tmps.getD i undef) → S w → B ≤ w.heap.size → (∀ b, k b → b < w.heap.size) → P2 none none k w → (∀ v w' k', P2 (some v) none k' w' → Grew w w' B k k' → K (a.put (some d3) v) w') → wpOp P ops Q i3 K a w)
    (h4 : ∀ (a : Act) (w : World) (k : Nat → Prop) (v : Value) (K : Act → World → Prop), (∀ i, i ≠ d1 → i ≠ d2 → i ≠ d3 → i ≠ d4 → a.tmps.getD i undef = a0.tmps.getD i undef) → a.tmps.getD d3 undef = v → S w → B ≤ w.heap.size → (∀ b, k b → b < w.heap.size) → P2 (some v) none k w → (∀ v' w' k', P2 (some v) (some v') k' w' → Grew w w' B k k' → K (a.put (some d4) v') w') → wpOp P ops Q i4 K a w)
    (hfin : ∀ (v1 v2 v3 v4 : Value) (k1 k2 : Nat → Prop) (w : World), P1 (some v1) (some v2) k1 w → P2 (some v3) (some v4) k2 w → Pair2 w0 B j1 j2 k1 k2 w →
      wpAnyH P .any ops Q S m (L true true true true) ((((a0.put (some d1) v1).put (some d2) v2).put (some d3) v3).put (some d4) v4) w)
    (p1 : P1 none none j1 w0) (p2 : P2 none none j2 w0) (ap : ∀ b, j1 b → ¬ j2 b) (l1 : ∀ b, j1 b → b < w0.heap.size) (l2 : ∀ b, j2 b → b < w0.heap.size) :
    wpAnyH P .any ops Q S (4 + m) (L false false false false) a0 w0 := by
  have main : ∀ (n : Nat) (b1 b2 b3 b4 : Bool) (a : Act) (w : World) (v1 v2 v3 v4 : Value) (k1 k2 : Nat → Prop), (b2 = true → b1 = true) → (b4 = true → b3 = true) → n = lack4 b1 b2 b3 b4 → a = fr a0 d1 d2 d3 d4 (opt b1 v1) (opt b2 v2) (opt b3 v3) (opt b4 v4) → Pair2 w0 B j1 j2 k1 k2 w → P1 (opt b1 v1) (opt b2 v2) k1 w → P2 (opt b3 v3) (opt b4 v4) k2 w →
      wpAnyH P .any ops Q S (n + m) (L b1 b2 b3 b4) a w := by
    intro n
    induction n with
    | zero =>
      intro b1 b2 b3 b4 a w v1 v2 v3 v4 k1 k2 _ _ hn ha hp q1 q2
      cases b1 <;> cases b2 <;> cases b3 <;> cases b4 <;> simp [lack4] at hn
      subst ha
      rw [Nat.zero_add]
      exact hfin v1 v2 v3 v4 k1 k2 w q1 q2 hp
    | succ n ih =>
      intro b1 b2 b3 b4 a w v1 v2 v3 v4 k1 k2 c21 c43 hn ha hp q1 q2
      have rest : ∀ i, i ≠ d1 → i ≠ d2 → i ≠ d3 → i ≠ d4 → a.tmps.getD i undef = a0.tmps.getD i undef := fun i x1 x2 x3 x4 => by
        rw [ha]; unfold fr
        rw [po_get (Ne.symm x4), po_get (Ne.symm x3), po_get (Ne.symm x2), po_get (Ne.symm x1)]
      have hBw : B ≤ w.heap.size := Nat.le_trans hB hp.size
      have hrr := hr b1 b2 b3 b4 c21 c43
      rw [show n + 1 + m = (n + m) + 1 by omega]
      obtain ⟨hne, hsub⟩ := hR b1 b2 b3 b4 c21 c43 (by cases b1 <;> cases b2 <;> cases b3 <;> cases b4 <;> simp [lack4] at hn ⊢)
      refine wpAnyH_all hrr hne fun i hi => ?_
      rcases hsub i hi with ⟨rfl, rfl⟩ | ⟨rfl, rfl, rfl⟩ | ⟨rfl, rfl⟩ | ⟨rfl, rfl, rfl⟩
      · obtain rfl : b2 = false := by cases b2 with
          | false => rfl
          | true => exact absurd (c21 rfl) (by decide)
        refine h1 a w k1 _ rest (hS _ _ _ hp) hBw hp.lt1 q1 fun v w' k' q' g => ?_
        obtain ⟨hp', kp⟩ := hp.step1 g
        refine ⟨hS _ _ _ hp', ?_⟩
        rw [s1]
        refine ih true false b3 b4 _ w' v v2 v3 v4 k' k2 (fun _ => rfl) c43 (by simp only [lack4] at hn ⊢; simp at hn ⊢; omega) ?_ hp' q' (st2 _ _ _ _ _ q2 hp.lt2 kp)
        rw [ha]
        unfold fr
        rw [po_put e14.symm, po_put e13.symm, po_put e12.symm]
        rfl
      · have q : a.tmps.getD d1 undef = v1 := by
          rw [ha]; unfold fr
          rw [po_get e14.symm, po_get e13.symm, po_get e12.symm]
          exact put_at z1 v1
        refine h2 a w k1 v1 _ rest q (hS _ _ _ hp) hBw hp.lt1 q1 fun v w' k' q' g => ?_
        obtain ⟨hp', kp⟩ := hp.step1 g
        refine ⟨hS _ _ _ hp', ?_⟩
        rw [s2]
        refine ih true true b3 b4 _ w' v1 v v3 v4 k' k2 (fun _ => rfl) c43 (by simp only [lack4] at hn ⊢; simp at hn ⊢; omega) ?_ hp' q' (st2 _ _ _ _ _ q2 hp.lt2 kp)
        rw [ha]
        unfold fr
        rw [po_put e24.symm, po_put e23.symm]
        rfl
      · obtain rfl : b4 = false := by cases b4 with
          | false => rfl
          | true => exact absurd (c43 rfl) (by decide)
        refine h3 a w k2 _ rest (hS _ _ _ hp) hBw hp.lt2 q2 fun v w' k' q' g => ?_
        obtain ⟨hp', kp⟩ := hp.swap.step1 g
        have hp' := hp'.swap
        refine ⟨hS _ _ _ hp', ?_⟩
        rw [s3]
        refine ih b1 b2 true false _ w' v1 v2 v v4 k1 k' c21 (fun _ => rfl) (by simp only [lack4] at hn ⊢; simp at hn ⊢; omega) ?_ hp' (st1 _ _ _ _ _ q1 hp.lt1 kp) q'
        rw [ha]
        unfold fr
        rw [po_put e34.symm]
        rfl
      · have q : a.tmps.getD d3 undef = v3 := by
          rw [ha]; unfold fr
          rw [po_get e34.symm]
          exact put_at (by rw [po_size, po_size]; exact z3) v3
        refine h4 a w k2 v3 _ rest q (hS _ _ _ hp) hBw hp.lt2 q2 fun v w' k' q' g => ?_
        obtain ⟨hp', kp⟩ := hp.swap.step1 g
        have hp' := hp'.swap
        refine ⟨hS _ _ _ hp', ?_⟩
        rw [s4]
        refine ih b1 b2 true true _ w' v1 v2 v3 v k1 k' c21 (fun _ => rfl) (by simp only [lack4] at hn ⊢; simp at hn ⊢; omega) ?_ hp' (st1 _ _ _ _ _ q1 hp.lt1 kp) q'
        rw [ha]
        rfl
  exact main 4 false false false false a0 w0 undef undef undef undef j1 j2 (fun h => by cases h) (fun h => by cases h) rfl rfl ⟨ap, l1, l2, fun b h => .inl h, fun b h => .inl h, Nat.le_refl _, fun _ _ _ _ => rfl, Below.refl _ _⟩ p1 p2
end
end Go.Proofs.Ytcdmebjggdhhdaa
namespace Go.Proofs.Ytcdmebjggdhhdaa
open Go.RowKit

theorem run_append_any {w : World} {B : Nat} {K : Nat → Prop} {v vx : Value} {xs ys : List Int} (hL : Lst w B K v xs) (hlt : ∀ b, K b → b < w.heap.size) (hB : B ≤ w.heap.size) (hI : Ints w vx ys) (hlen : xs.length + ys.length ≤ 1000000000) (ty : TypeId) :
    ∃ v' w' K', (Builtin.append_ #[35, 35] ty #[v, vx]).run Try.prog w = .ok v' w' ∧ PushedS w w' B K K' v' (xs ++ ys) := by
  rcases hI with ⟨rfl, rfl⟩ | ⟨b, off, c, rfl, h1, h2, h3⟩
  · obtain ⟨i0, hi, hz0, hz1, hz2⟩ := info_parts info_int
    refine ⟨v, w, K, run_append_owned_none w B 35 ty 3 i0 1 Try.underlying35 hi v xs.length _ hL.1, ⟨by simpa using hL, fun b hb => hb, fun b hb => ⟨hlt b hb, .inl hb⟩, Nat.le_refl _, fun _ _ _ => rfl, Below.refl _ _⟩⟩
  · exact run_append_ints hL hlt hB ⟨b, off, none⟩ ys.length c rfl hlen (fun j hj => by rw [Addr.add_lit]; exact h3 j hj) ty
theorem wp_append_any {w : World} {B : Nat} {K : Nat → Prop} {v vx : Value} {xs ys : List Int} {o : Oper} {a : Act} {Kc : Act → World → Prop} {Q : Exit → Act → World → Prop} (hL : Lst w B K v xs) (hlt : ∀ b, K b → b < w.heap.size) (hB : B ≤ w.heap.size) (hI : Ints w vx ys) (hlen : xs.length + ys.length ≤ 1000000000) (s x : Operand)
    (ho : o.op = Op.call { callee := Callee.builtin Builtin.append, args := #[s, x], argTypes := #[35, 35] }) (hs : a.eval s = v) (hx : a.eval x = vx) (h : ∀ v' w' K', PushedS w w' B K K' v' (xs ++ ys) → Kc (a.put o.dst v') w') : o.wp Try.prog a w Kc Q := by
  obtain ⟨v', w', K', hr, hp⟩ := run_append_any hL hlt hB hI hlen o.type
  unfold Oper.wp execOp
  simp only [ho, resolve, invoke, builtin, Sem.run_bind, Sem.run_pure, Result.andThen_ok, List.map_toArray, List.map_cons, List.map_nil, hs, hx, hr]
  exact h v' w' K' hp
theorem wpList_append_any {w : World} {B : Nat} {K : Nat → Prop} {v vx : Value} {xs ys : List Int} {ops : Array Oper} {rest : List Oper} {o : Oper} {a : Act} {Q : Exit → Act → World → Prop} (hL : Lst w B K v xs) (hlt : ∀ b, K b → b < w.heap.size) (hB : B ≤ w.heap.size) (hI : Ints w vx ys) (hlen : xs.length + ys.length ≤ 1000000000) (hgd : o.guard = none) (s x : Operand)
    (ho : o.op = Op.call { callee := Callee.builtin Builtin.append, args := #[s, x], argTypes := #[35, 35] }) (hs : a.eval s = v) (hx : a.eval x = vx) (h : ∀ v' w' K', PushedS w w' B K K' v' (xs ++ ys) → wpList Try.prog ops Q rest (a.put o.dst v') w') : wpList Try.prog ops Q (o :: rest) a w :=
  wpList_plain hgd fun _ hK => wp_append_any hL hlt hB hI hlen s x ho hs hx fun v' w' K' hp => hK _ _ (h v' w' K' hp)
theorem Lst.same {w w' : World} {B : Nat} {K : Nat → Prop} {v : Value} {xs : List Int} (h : Lst w B K v xs) (hs : ∀ b, b < w.heap.size → K b → w'.heap[b]? = w.heap[b]?) : Lst w' B K v xs := by
  obtain ⟨⟨h1, h2⟩, h3⟩ := h
  refine ⟨⟨h1, ?_⟩, h3⟩
  rcases h2 with h2 | ⟨g, cap, cur, rfl, hg, hh, r⟩
  · exact .inl h2
  · exact .inr ⟨g, cap, cur, rfl, hg, (hs g (lt_heap hh) (h3 g rfl)).trans hh, r⟩
/-- One more number is put behind a list. -/
def Snoc (B : Nat) (nv : Value) (xs : List Int) (x : Int) : Option Value → Option Value → (Nat → Prop) → World → Prop
  | none, _, k, w => Lst w B k nv xs
  | some v, none, k, w => Lst w B k nv xs ∧ ∃ g, v = .slice (some ⟨g, 0, none⟩) 1 1 ∧ k g ∧ g < w.heap.size ∧ w.cell? ⟨g, 0, none⟩ = some (.int .i64 x)
  | some _, some v', k, w => Lst w B k v' (xs ++ [x])
theorem lt_kept {w w' : World} {g : Nat} (lg : g < w.heap.size) (h : w'.heap[g]? = w.heap[g]?) : g < w'.heap.size := Nat.lt_of_not_le fun hg => by
  rw [Array.getElem?_eq_none hg, Array.getElem?_eq_getElem lg] at h
  cases h
theorem Snoc.same {B : Nat} {nv : Value} {xs : List Int} {x : Int} : ∀ (a b : Option Value) (k : Nat → Prop) (w w' : World), Snoc B nv xs x a b k w → (∀ b, k b → b < w.heap.size) → (∀ b, b < w.heap.size → k b → w'.heap[b]? = w.heap[b]?) → Snoc B nv xs x a b k w'
  | none, _, _, _, _, h, _, hs => Lst.same h hs
  | some _, none, _, _, _, ⟨h, g, e, kg, lg, c⟩, _, hs => ⟨Lst.same h hs, g, e, kg, lt_kept lg (hs g lg kg), (World.cell?_of_block (hs g lg kg)).trans c⟩
  | some _, some _, _, _, _, h, _, hs => Lst.same (xs := xs ++ [x]) h hs
/-- Two parts are put behind one another. -/
def Join (B : Nat) (xs ys : List Int) : Option Value → Option Value → (Nat → Prop) → World → Prop
  | none, _, _, _ => True
  | some v, none, k, w => Lst w B k v xs
  | some _, some v', k, w => Lst w B k v' (xs ++ ys)
theorem Join.same {B : Nat} {xs ys : List Int} : ∀ (a b : Option Value) (k : Nat → Prop) (w w' : World), Join B xs ys a b k w → (∀ b, k b → b < w.heap.size) → (∀ b, b < w.heap.size → k b → w'.heap[b]? = w.heap[b]?) → Join B xs ys a b k w'
  | none, _, _, _, _, _, _, _ => trivial
  | some v, none, _, _, _, h, _, hs => Lst.same (v := v) (xs := xs) h hs
  | some _, some v, _, _, _, h, _, hs => Lst.same (v := v) (xs := xs ++ ys) h hs
/-- A part of a list is a slice of its row. -/
theorem Lst.part {w : World} {B : Nat} {K : Nat → Prop} {g n c : Nat} {xs : List Int} (h : Lst w B K (.slice (some ⟨g, 0, none⟩) n c) xs) (hn : xs.length = n) (i m : Nat) (him : i + m ≤ n) (hm : 0 < n) (cc : Nat) (hcc : m ≤ cc) : Ints w (.slice (some ⟨g, i, none⟩) m cc) ((xs.drop i).take m) := by
  obtain ⟨g2, c2, e2, hc2, _, hc⟩ := h.at_ (i := 0) (by omega)
  cases e2
  have hl : ((xs.drop i).take m).length = m := by simp; omega
  refine .inr ⟨g, i, cc, by rw [hl], ?_, by rw [hl]; exact hcc, fun j hj => ?_⟩
  · have := hc 0 (by omega)
    rcases h.1.2 with ⟨e, _⟩ | ⟨g', cap, cur, e, hg, hh, _⟩
    · cases e
    · cases e; exact lt_heap hh
  · rw [hl] at hj
    rw [hc (i + j) (by omega)]
    simp [List.getD, hj]
end Go.Proofs.Ytcdmebjggdhhdaa
namespace Go.Proofs.Ytcdmebjggdhhdaa
open Go.ChangeShapes Go.WideShapes Go.ChangeAt Go.RowKit

/-- The last place of a number among the first j, or -1. -/
def plcTo (xs : List Int) (id : Int) : Nat → Int
  | 0 => -1
  | j + 1 => if xs.getD j 0 = id then j else plcTo xs id j
theorem plcTo_bd (xs : List Int) (id : Int) : ∀ j, -1 ≤ plcTo xs id j ∧ plcTo xs id j < j
  | 0 => by simp [plcTo]
  | j + 1 => by
    have := plcTo_bd xs id j
    unfold plcTo
    split <;> omega
theorem plcTo_none {xs : List Int} {id : Int} : ∀ j, (∀ i, i < j → xs.getD i 0 ≠ id) → plcTo xs id j = -1
  | 0, _ => rfl
  | j + 1, h => by
    unfold plcTo
    rw [if_neg (h j (Nat.lt_succ_self _))]
    exact plcTo_none j fun i hi => h i (by omega)
theorem plcTo_one {xs : List Int} {id : Int} {k : Nat} (hk : xs.getD k 0 = id) : ∀ j, k < j → (∀ i, i < j → i ≠ k → xs.getD i 0 ≠ id) → plcTo xs id j = k
  | 0, h, _ => absurd h (Nat.not_lt_zero _)
  | j + 1, h, hn => by
    unfold plcTo
    by_cases e : j = k
    · subst e
      rw [if_pos hk]
    · rw [if_neg (hn j (Nat.lt_succ_self _) e)]
      exact plcTo_one hk j (by omega) fun i hi => hn i (by omega)
theorem getD_fst (l : List (Int × Int)) (i : Nat) : (l.map Prod.fst).getD i 0 = (l.getD i (0, 0)).1 := by
  simp only [List.getD_eq_getElem?_getD, List.getElem?_map]
  cases l[i]? <;> rfl
theorem getD_snd (l : List (Int × Int)) (i : Nat) : (l.map Prod.snd).getD i 0 = (l.getD i (0, 0)).2 := by
  simp only [List.getD_eq_getElem?_getD, List.getElem?_map]
  cases l[i]? <;> rfl
theorem placed_plc {l : List (Int × Int)} {id : Int} {k : Nat} {b : Bool} (h : Placed l id k b) (nd : (l.map Prod.fst).Nodup) : plcTo (l.map Prod.fst) id l.length = if b then (k : Int) else -1 := by
  rcases h with ⟨rfl, h1, h2, _⟩ | ⟨rfl, _, h3⟩
  · rw [if_pos rfl]
    refine plcTo_one (by rw [getD_fst]; exact h2) _ h1 fun i hi ne e => ne ?_
    have hi' : i < (l.map Prod.fst).length := by simpa using hi
    have hk' : k < (l.map Prod.fst).length := by simpa using h1
    refine (List.getElem_inj (h₀ := hi') (h₁ := hk') nd).1 ?_
    have e1 : (l.map Prod.fst).getD k 0 = id := by rw [getD_fst]; exact h2
    rw [List.getD_eq_getElem?_getD, List.getElem?_eq_getElem hi'] at e
    rw [List.getD_eq_getElem?_getD, List.getElem?_eq_getElem hk'] at e1
    exact e.trans e1.symm
  · simp only [Bool.false_eq_true, if_false]
    exact plcTo_none _ fun i hi => by rw [getD_fst]; exact h3 i hi
/-- A number and the first j of a list together. -/
def sumTo (xs : List Int) (n0 : Int) : Nat → Int
  | 0 => n0
  | j + 1 => sumTo xs n0 j + xs.getD j 0
theorem sumTo_tot : ∀ (l : List (Int × Int)) (n0 : Int), sumTo (l.map Prod.snd) n0 l.length = n0 + tot l - l.length := by
  have step : ∀ (l : List (Int × Int)) (n0 : Int) (j : Nat), j ≤ l.length → sumTo (l.map Prod.snd) n0 j = n0 + tot (l.take j) - j := by
    intro l n0 j
    induction j with
    | zero => intro _; simp [sumTo, tot]
    | succ j ih =>
      intro hj
      unfold sumTo
      rw [ih (by omega), take_nextD (d := ((0 : Int), (0 : Int))) (by omega), tot_append, getD_snd]
      simp only [tot]
      omega
  intro l n0
  rw [step l n0 l.length (Nat.le_refl _), List.take_length]
theorem sumTo_bd {xs : List Int} {n0 : Int} (hb : ∀ i, i < xs.length → 0 ≤ xs.getD i 0 ∧ xs.getD i 0 ≤ 40) : ∀ j, j ≤ xs.length → n0 ≤ sumTo xs n0 j ∧ sumTo xs n0 j ≤ n0 + 40 * j
  | 0, _ => by simp [sumTo]
  | j + 1, h => by
    have := sumTo_bd (n0 := n0) hb j (by omega)
    have := hb j (by omega)
    unfold sumTo
    omega
theorem docs_del {l : List (Int × Int)} (h : Docs l) (k : Nat) : Docs (delL l k) := by
  unfold delL
  refine ⟨?_, fun p hp => h.2 p ?_⟩
  · have := h.1
    simp
    omega
  · rcases List.mem_append.1 hp with hp | hp
    · exact List.mem_of_mem_take hp
    · exact List.mem_of_mem_drop hp
/-- Between two rounds. -/
structure TS (w : World) (p j : Nat) (K k1 k2 : Nat → Prop) (s : Ar) (h : Int) (l : List (Int × Int)) (v1 v2 : Value) (W : World) : Prop where
  ars : Ars W K p s
  gd : Gd s [h]
  lh : Lh s h l
  docs : Docs l
  ten : l.length ≤ 10
  nd : (l.map Prod.fst).Nodup
  ids : Lst W w.heap.size k1 v1 (l.map Prod.fst)
  lens : Lst W w.heap.size k2 v2 (l.map Prod.snd)
  sub1 : ∀ x, k1 x → K x
  sub2 : ∀ x, k2 x → K x
  kK : ∀ x, x < w.heap.size → K x
  bel : Below w.heap.size w W
  mb : s.made - s.busy ≤ 200 * j
  n : s.n ≤ 200
section
variable {w W W' : World} {p j : Nat} {K k1 k2 : Nat → Prop} {s : Ar} {h : Int} {l : List (Int × Int)} {v1 v2 : Value}
theorem TS.klt (T : TS w p j K k1 k2 s h l v1 v2 W) : ∀ b, K b → b < W.heap.size := T.ars.lt
/-- Memory went on that is none of ours. -/
theorem TS.kept (T : TS w p j K k1 k2 s h l v1 v2 W) (ha : Ars W' K p s) (hk : Kept K W W') : TS w p j K k1 k2 s h l v1 v2 W' :=
  ⟨ha, T.gd, T.lh, T.docs, T.ten, T.nd, T.ids.kept (hk.mono fun x _ hx => T.sub1 x hx), T.lens.kept (hk.mono fun x _ hx => T.sub2 x hx), T.sub1, T.sub2, T.kK, T.bel.trans ((hk.mono fun x _ hx => T.kK x hx).below_of T.bel.size), T.mb, T.n⟩
theorem TS.below (T : TS w p j K k1 k2 s h l v1 v2 W) (hb : Below W.heap.size W W') : TS w p j K k1 k2 s h l v1 v2 W' := T.kept (T.ars.below hb) (Kept.of_below hb K)
theorem TS.alloc (T : TS w p j K k1 k2 s h l v1 v2 W) (o : Obj) : TS w p j K k1 k2 s h l v1 v2 (W.alloc o) := T.below ((Below.refl _ _).alloc (Nat.le_refl _) o)
theorem TS.drewN (T : TS w p j K k1 k2 s h l v1 v2 W) (m : Nat) : TS w p j K k1 k2 s h l v1 v2 (W.drewN m) := T.below ⟨rfl, rfl, rfl, Nat.le_refl _, fun _ _ => rfl⟩
theorem TS.next (T : TS w p j K k1 k2 s h l v1 v2 W) : TS w p (j + 1) K k1 k2 s h l v1 v2 W := { T with mb := by have := T.mb; omega }
theorem TS.allocK (T : TS w p j K k1 k2 s h l v1 v2 W) (o : Obj) : TS w p j (fun x => K x ∨ x = W.heap.size) k1 k2 s h l v1 v2 (W.alloc o) :=
  { T.alloc o with ars := T.ars.allocK o, sub1 := fun x hx => .inl (T.sub1 x hx), sub2 := fun x hx => .inl (T.sub2 x hx), kK := fun x hx => .inl (T.kK x hx) }
theorem TS.good (T : TS w p j K k1 k2 s h l v1 v2 W) (hj : j ≤ 1000) : Snd s := T.gd.snd (by simp) (by have := T.mb; omega)
theorem TS.work (T : TS w p j K k1 k2 s h l v1 v2 W) (m : Nat) (ha : Ars W' K p (s.work m).1) (hk : Kept K W W') : TS w p (j + 1) K k1 k2 (s.work m).1 h l v1 v2 W' := by
  have g := gd_work T.gd m
  have b1 := g.busy_le
  have b2 := T.gd.busy_le
  have w1 := work_made m s
  have w2 := work_nn m s
  have := T.mb
  have := T.n
  exact ⟨ha, g, T.lh.workg T.gd (.inr List.mem_cons_self) m, T.docs, T.ten, T.nd, T.ids.kept (hk.mono fun x _ hx => T.sub1 x hx), T.lens.kept (hk.mono fun x _ hx => T.sub2 x hx), T.sub1, T.sub2, T.kK, T.bel.trans ((hk.mono fun x _ hx => T.kK x hx).below_of T.bel.size), by omega, by omega⟩
/-- Two new lists beside what there is. -/
structure Nw (w : World) (kA kB : Nat → Prop) (a b : Value) (xs ys : List Int) (W : World) : Prop where
  ids : Lst W w.heap.size kA a xs
  lens : Lst W w.heap.size kB b ys
  apart : ∀ x, kA x → ¬ kB x
  lt1 : ∀ x, kA x → x < W.heap.size
  lt2 : ∀ x, kB x → x < W.heap.size
theorem PushedS.fresh {W W2 : World} {B : Nat} {kA : Nat → Prop} {a : Value} {xs : List Int} (h : PushedS W W2 B (fun _ => False) kA a xs) : Below W.heap.size W W2 ∧ ∀ x, kA x → W.heap.size ≤ x ∧ x < W2.heap.size :=
  ⟨⟨h.below.os, h.below.tape, h.below.output, h.size, fun b hb => h.same b hb fun e => e⟩, fun x hx => ⟨by rcases (h.new x hx).2 with e | e; exact e.elim; exact e, (h.new x hx).1⟩⟩
theorem TS.copies {W2 W3 : World} {kA kB : Nat → Prop} {a b : Value} (T : TS w p j K k1 k2 s h l v1 v2 W) (h1 : PushedS W W2 w.heap.size (fun _ => False) kA a ([] ++ l.map Prod.fst)) (h2 : PushedS W2 W3 w.heap.size (fun _ => False) kB b ([] ++ l.map Prod.snd)) :
    TS w p j (fun x => K x ∨ kA x ∨ kB x) k1 k2 s h l v1 v2 W3 ∧ Nw w kA kB a b (l.map Prod.fst) (l.map Prod.snd) W3 ∧ Below W.heap.size W W3 ∧ (∀ x, kA x ∨ kB x → W.heap.size ≤ x) := by
  obtain ⟨b1, n1⟩ := h1.fresh
  obtain ⟨b2, n2⟩ := h2.fresh
  have b3 : Below W.heap.size W W3 := b1.trans (b2.mono b1.size)
  have T3 := T.below b3
  have z1 := b1.size
  have z2 := b2.size
  refine ⟨{ T3 with ars := T.ars.step b3.size (fun x hx _ => b3.block x hx) (fun x hx => ?_), sub1 := fun x hx => .inl (T.sub1 x hx), sub2 := fun x hx => .inl (T.sub2 x hx), kK := fun x hx => .inl (T.kK x hx) }, ⟨Lst.same (xs := l.map Prod.fst) h1.lst fun x hx _ => b2.block x hx, h2.lst, fun x hA hB => ?_, fun x hx => ?_, fun x hx => (n2 x hx).2⟩, b3, fun x hx => ?_⟩
  · rcases hx with hx | hx | hx
    · exact ⟨T3.klt x hx, .inl hx⟩
    · have := n1 x hx; exact ⟨by omega, .inr this.1⟩
    · have := n2 x hx; exact ⟨by omega, .inr (by omega)⟩
  · have := n1 x hA
    have := n2 x hB
    omega
  · have := n1 x hx
    omega
  · rcases hx with hx | hx
    · exact (n1 x hx).1
    · have := (n2 x hx).1
      omega
end
end Go.Proofs.Ytcdmebjggdhhdaa
namespace Go.Proofs.Ytcdmebjggdhhdaa
open Go.ChangeShapes Go.WideShapes Go.ChangeAt Go.RowKit

/-- Behind a change that was not told. -/
structure Chg (w : World) (p : Nat) (k1 k2 : Nat → Prop) (s : Ar) (h : Int) (l : List (Int × Int)) (v1 v2 : Value) (q e1 : Int) (s1 : Ar) (l2 : List (Int × Int)) (K2 kA kB : Nat → Prop) (a b : Value) (W : World) : Prop where
  ars : Ars W K2 p s1
  res : LMade s s1 e1 q (lc l.length) l2 [h]
  docs : Docs l2
  ten : l2.length ≤ 10
  nd : (l2.map Prod.fst).Nodup
  nw : Nw w kA kB a b (l2.map Prod.fst) (l2.map Prod.snd) W
  subA : ∀ x, kA x → K2 x
  subB : ∀ x, kB x → K2 x
  sub1 : ∀ x, k1 x → K2 x
  sub2 : ∀ x, k2 x → K2 x
  kK : ∀ x, x < w.heap.size → K2 x
  ids : Lst W w.heap.size k1 v1 (l.map Prod.fst)
  lens : Lst W w.heap.size k2 v2 (l.map Prod.snd)
  bel : Below w.heap.size w W
/-- Behind a change: it was told, and nothing is new; or the table is what it should be, unless the arena was full. -/
def Told (w : World) (p j : Nat) (k1 k2 : Nat → Prop) (s : Ar) (h : Int) (l : List (Int × Int)) (v1 v2 : Value) (g e f a b : Value) (W : World) : Prop :=
  (∃ (f0 : Int) (K : Nat → Prop), f0 ≠ 0 ∧ f0 ≠ 2 ∧ g = .int .i64 0 ∧ e = .int .i64 f0 ∧ f = .int .i64 f0 ∧ TS w p j K k1 k2 s h l v1 v2 W) ∨
  ∃ (q e1 : Int) (s1 : Ar) (l2 : List (Int × Int)) (K2 kA kB : Nat → Prop), g = .int .i64 q ∧ e = .int .i64 e1 ∧ f = .int .i64 0 ∧ Chg w p k1 k2 s h l v1 v2 q e1 s1 l2 K2 kA kB a b W
section
variable {w W W0 : World} {p j : Nat} {K k1 k2 K2 kA kB : Nat → Prop} {s s1 : Ar} {h q e1 : Int} {l l2 : List (Int × Int)} {v1 v2 a b : Value}
/-- Memory went on that is none of ours. -/
theorem Chg.kept {W' : World} (c : Chg w p k1 k2 s h l v1 v2 q e1 s1 l2 K2 kA kB a b W) (ha : Ars W' K2 p s1) (hk : Kept K2 W W') : Chg w p k1 k2 s h l v1 v2 q e1 s1 l2 K2 kA kB a b W' :=
  { c with
    ars := ha
    nw := ⟨c.nw.ids.kept (hk.mono fun x _ hx => c.subA x hx), c.nw.lens.kept (hk.mono fun x _ hx => c.subB x hx), c.nw.apart, fun x hx => Nat.lt_of_lt_of_le (c.nw.lt1 x hx) hk.size, fun x hx => Nat.lt_of_lt_of_le (c.nw.lt2 x hx) hk.size⟩
    ids := c.ids.kept (hk.mono fun x _ hx => c.sub1 x hx)
    lens := c.lens.kept (hk.mono fun x _ hx => c.sub2 x hx)
    bel := c.bel.trans ((hk.mono fun x _ hx => c.kK x hx).below_of c.bel.size) }
/-- There was no room. -/
theorem Chg.full (c : Chg w p k1 k2 s h l v1 v2 q e1 s1 l2 K2 kA kB a b W) (T : TS w p j K k1 k2 s h l v1 v2 W0) (e : e1 ≠ 0) : q = 0 ∧ e1 = 2 ∧ TS w p j K2 k1 k2 s1 h l v1 v2 W := by
  have q0 := c.res.zero e
  have g := c.res.gd
  have md := c.res.went.md
  have nn := c.res.went.ext.n
  subst q0
  refine ⟨rfl, ?_, c.ars, g.unzero, T.lh.ext c.res.went.ext, T.docs, T.ten, T.nd, c.ids, c.lens, c.sub1, c.sub2, c.kK, c.bel, by have := T.mb; omega, by have := T.n; omega⟩
  rcases c.res.eok with e' | e'
  · exact absurd e' e
  · exact e'.1
/-- What is there behind a change that went well. -/
structure Did (w : World) (p j : Nat) (s1 : Ar) (h q : Int) (l l2 : List (Int × Int)) (K2 kA kB : Nat → Prop) (a b : Value) (W : World) : Prop where
  lh : Lh s1 h l
  gd : Gd s1 (q :: [h])
  mb : s1.made - s1.busy ≤ 1000000000
  snd : Snd s1
  drop : h ≠ 0 → s1.drop h = ((s1.drop h).1, 0)
  same : h = 0 → (s1.drop h).1 = s1
  next : ∀ W', Ars W' K2 p (s1.drop h).1 → Kept K2 W W' → TS w p (j + 1) K2 kA kB (s1.drop h).1 q l2 a b W'
theorem Chg.did (c : Chg w p k1 k2 s h l v1 v2 q 0 s1 l2 K2 kA kB a b W) (T : TS w p j K k1 k2 s h l v1 v2 W0) (hj : j ≤ 1000) : Did w p j s1 h q l l2 K2 kA kB a b W := by
  have g := c.res.gd
  have md := c.res.went.md
  have nn := c.res.went.ext.n
  have mb := T.mb
  have n2 := T.n
  have hr := T.lh.range
  have g2 : Gd (s1.drop h).1 [q] := gd_drop g.swap hr.1 (by omega)
  have hd1 := drop_busy s1 h
  have hd2 := drop_made s1 h
  have hd3 := drop_n s1 h
  refine ⟨T.lh.ext c.res.went.ext, g, by omega, g.snd (by simp) (by omega), fun hh => ?_, fun hh => ?_, fun W' ha hk => ?_⟩
  · unfold Ar.drop
    rw [if_neg (g.live (by omega) (by omega) (by simp))]
  · subst hh
    exact drop0 s1
  · have c' := c.nw
    exact ⟨ha, g2, (c.res.lh rfl).dropg h, c.docs, c.ten, c.nd, c'.ids.kept (hk.mono fun x _ hx => c.subA x hx), c'.lens.kept (hk.mono fun x _ hx => c.subB x hx), c.subA, c.subB, c.kK, c.bel.trans ((hk.mono fun x _ hx => c.kK x hx).below_of c.bel.size), by rw [hd1, hd2]; omega, by rw [hd3]; omega⟩
/-- Two lists have grown beside what there is. -/
theorem Chg.grown {w6 w7 : World} {K6 j1 j2 : Nat → Prop} (T : TS w p j K6 k1 k2 s h l v1 v2 w6) (ha : Ars w7 K6 p s1) (hk : Kept K6 w6 w7) (R : LMade s s1 e1 q (lc l.length) l2 [h])
    (hj : ∀ x, j1 x ∨ j2 x → K6 x ∧ ¬ k1 x ∧ ¬ k2 x) (P : Pair2 w7 w.heap.size j1 j2 kA kB W) (pa : Lst W w.heap.size kA a (l2.map Prod.fst)) (pb : Lst W w.heap.size kB b (l2.map Prod.snd)) (hd : Docs l2) (ht : l2.length ≤ 10) (nd : (l2.map Prod.fst).Nodup) :
    Chg w p k1 k2 s h l v1 v2 q e1 s1 l2 (fun x => K6 x ∨ kA x ∨ kB x) kA kB a b W := by
  have T7 : ∀ x, K6 x → x < w7.heap.size := ha.lt
  refine ⟨ha.step P.size (fun x hx hn => P.same x hx (fun e => hn (hj x (.inl e)).1) fun e => hn (hj x (.inr e)).1) (fun x hx => ?_), R, hd, ht, nd, ⟨pa, pb, P.apart, P.lt1, P.lt2⟩, fun x hx => .inr (.inl hx), fun x hx => .inr (.inr hx), fun x hx => .inl (T.sub1 x hx), fun x hx => .inl (T.sub2 x hx), fun x hx => .inl (T.kK x hx), ?_, ?_, ?_⟩
  · rcases hx with hx | hx | hx
    · exact ⟨Nat.lt_of_lt_of_le (T7 x hx) P.size, .inl hx⟩
    · refine ⟨P.lt1 x hx, ?_⟩
      rcases P.new1 x hx with e | e
      · exact .inl (hj x (.inl e)).1
      · exact .inr e
    · refine ⟨P.lt2 x hx, ?_⟩
      rcases P.new2 x hx with e | e
      · exact .inl (hj x (.inr e)).1
      · exact .inr e
  · exact Lst.same (T.ids.kept (hk.mono fun x _ hx => T.sub1 x hx)) fun x hx hx1 => P.same x hx (fun e => (hj x (.inl e)).2.1 hx1) fun e => (hj x (.inr e)).2.1 hx1
  · exact Lst.same (T.lens.kept (hk.mono fun x _ hx => T.sub2 x hx)) fun x hx hx1 => P.same x hx (fun e => (hj x (.inl e)).2.2 hx1) fun e => (hj x (.inr e)).2.2 hx1
  · exact (T.bel.trans ((hk.mono fun x _ hx => T.kK x hx).below_of T.bel.size)).trans P.below
theorem ints_cell {W : World} {g : Nat} {x : Int} (hg : g < W.heap.size) (hc : W.cell? ⟨g, 0, none⟩ = some (.int .i64 x)) : Ints W (.slice (some ⟨g, 0, none⟩) 1 1) [x] :=
  .inr ⟨g, 0, 1, rfl, hg, Nat.le_refl _, fun j hj => by
    obtain rfl : j = 0 := by simp at hj; omega
    exact hc⟩
theorem Lst.into {W : World} {B : Nat} {k k' : Nat → Prop} {v : Value} {xs : List Int} (hl : Lst W B k v xs) (hk : ∀ x, k x → k' x) : Lst W B k' v xs := by
  obtain ⟨h1, h3⟩ := hl
  exact ⟨h1, fun g e => hk _ (h3 g e)⟩
theorem Snoc.box {B : Nat} {nv : Value} {xs : List Int} {x : Int} {k : Nat → Prop} {W : World} (hs : Snoc B nv xs x none none k W) (ty : TypeId) : Snoc B nv xs x (some (.slice (some ⟨W.heap.size, 0, none⟩) 1 1)) none (fun b => k b ∨ b = W.heap.size) (W.alloc (.cells #[.int .i64 x] ty)) :=
  ⟨Lst.into (Lst.same (v := nv) (xs := xs) hs fun b hb _ => Below.heap_alloc W _ b hb) fun _ => .inl, _, rfl, .inr rfl, by simp, cell_of_row _ _ _ _ _ _ (heap_alloc_new W _)⟩
theorem pair_old {w0 : World} {B : Nat} {kA kB : Nat → Prop} {W : World} (P : Pair2 w0 B (fun _ => False) (fun _ => False) kA kB W) : Below w0.heap.size w0 W :=
  ⟨P.below.os, P.below.tape, P.below.output, P.size, fun b hb => P.same b hb id id⟩
theorem part_one {W : World} {B g n c k : Nat} {K : Nat → Prop} {xs : List Int} (hl : Lst W B K (.slice (some ⟨g, 0, none⟩) n c) xs) (hn : xs.length = n) (hk : k < n) (cc : Nat) (hc : k ≤ cc) : Ints W (.slice (some ⟨g, 0, none⟩) k cc) (xs.take k) := by
  have := hl.part hn 0 k (by omega) (by omega) cc hc
  simpa using this
theorem part_two {W : World} {B g n c k : Nat} {K : Nat → Prop} {xs : List Int} (hl : Lst W B K (.slice (some ⟨g, 0, none⟩) n c) xs) (hn : xs.length = n) (hk : k < n) (hc : n ≤ c) : Ints W (.slice (if c = k + 1 then some ⟨g, 0, none⟩ else some ⟨g, k + 1, none⟩) (n - (k + 1)) (c - (k + 1))) (xs.drop (k + 1)) := by
  split
  · have hz : xs.drop (k + 1) = [] := List.drop_eq_nil_of_le (by omega)
    rw [hz]
    have h0 := hl.part hn 0 0 (by omega) (by omega) (c - (k + 1)) (by omega)
    rw [show n - (k + 1) = 0 by omega]
    simpa using h0
  · have := hl.part hn (k + 1) (n - (k + 1)) (by omega) (by omega) (c - (k + 1)) (by omega)
    rwa [List.take_of_length_le (by simp; omega)] at this
theorem del_fst (l : List (Int × Int)) (k : Nat) : (delL l k).map Prod.fst = (l.map Prod.fst).take k ++ (l.map Prod.fst).drop (k + 1) := by
  unfold delL
  simp
theorem del_snd (l : List (Int × Int)) (k : Nat) : (delL l k).map Prod.snd = (l.map Prod.snd).take k ++ (l.map Prod.snd).drop (k + 1) := by
  unfold delL
  simp
theorem nodup_del {l : List (Int × Int)} (hn : (l.map Prod.fst).Nodup) (k : Nat) : ((delL l k).map Prod.fst).Nodup := by
  rw [del_fst]
  refine List.Sublist.nodup ?_ hn
  have := List.take_append_drop k (l.map Prod.fst)
  conv => rhs; rw [← this]
  exact List.Sublist.append_left (by rw [← List.drop_drop]; exact List.drop_sublist _ _) _
theorem nodup_snoc {l : List (Int × Int)} {id nn : Int} {k : Nat} (hn : (l.map Prod.fst).Nodup) (hp : Placed l id k false) : ((l ++ [(id, nn)]).map Prod.fst).Nodup := by
  rcases hp with ⟨e, _⟩ | ⟨_, _, h3⟩
  · cases e
  rw [List.map_append, List.nodup_append]
  refine ⟨hn, by simp, fun x hx y hy e => ?_⟩
  simp at hy
  obtain ⟨p, hp, rfl⟩ := List.mem_map.1 hx
  obtain ⟨i, hi, rfl⟩ := List.getElem_of_mem hp
  refine h3 i hi ?_
  rw [List.getD_eq_getElem?_getD, List.getElem?_eq_getElem hi]
  exact e.trans hy
theorem pair_refl {w0 : World} {B : Nat} {k1 k2 : Nat → Prop} (ap : ∀ b, k1 b → ¬ k2 b) (l1 : ∀ b, k1 b → b < w0.heap.size) (l2 : ∀ b, k2 b → b < w0.heap.size) : Pair2 w0 B k1 k2 k1 k2 w0 :=
  ⟨ap, l1, l2, fun _ h => .inl h, fun _ h => .inl h, Nat.le_refl _, fun _ _ _ _ => rfl, Below.refl _ _⟩
/-- The end: nothing is had any more. -/
structure Ends (s : Ar) (h : Int) : Prop where
  snd1 : Snd s
  snd2 : Snd (s.drop h).1
  drop : h ≠ 0 → s.drop h = ((s.drop h).1, 0)
  same : h = 0 → (s.drop h).1 = s
  zero : ((s.drop h).1.work 1073741824).1.busy = 0
theorem TS.ends (T : TS w p j K k1 k2 s h l v1 v2 W) (hj : j ≤ 1000) : Ends s h := by
  have mb := T.mb
  have n2 := T.n
  have g := T.gd
  have hr := T.lh.range
  have g2 : Gd (s.drop h).1 [] := gd_drop g hr.1 (by omega)
  have hd1 := drop_busy s h
  have hd2 := drop_made s h
  have hd3 := drop_n s h
  have bl2 := g2.busy_le
  have g3 := gd_work g2 1073741824
  refine ⟨T.good hj, g2.snd (by simp) (by omega), fun hh => ?_, fun hh => ?_, ?_⟩
  · unfold Ar.drop
    rw [if_neg (g.live (by omega) (by omega) (by simp))]
  · subst hh
    exact drop0 s
  · have := g3.busy_le.1
    have h0 := busy_cover g3 (work_none 1073741824 _ g2 (by omega)) (l := []) (fun y hy => by cases hy) (fun x k hx => by cases hx)
    simp at h0
    omega
end
end Go.Proofs.Ytcdmebjggdhhdaa
