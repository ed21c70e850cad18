/- How the arena lies in memory; what is kept of the rest. -/
import Derived.WalkKit
import Derived.WalkSpells
import Derived.WalkLawsBesides
import Derived.Lib.Hide
import Derived.Deep.QuietTactic
import Derived.BigQuiet
import Derived.RegionTactic
import Derived.Deep.RegionHeld3
import Derived.Deep.DeepCutAuto
import Derived.StillTailTactics
import Derived.Test.YtcdmebjggdhhdaaPure
import Derived.Test.YtcdmebjggdhhdaaProg
namespace Go.Proofs.Ytcdmebjggdhhdaa
open Go.RowKit

/-- The blocks of K are as they were; the streams too; no block has gone. -/
structure Kept (K : Nat → Prop) (w w' : World) : Prop where
  os : w'.os = w.os
  tape : w'.tape = w.tape
  output : w'.output = w.output
  size : w.heap.size ≤ w'.heap.size
  block : ∀ b, b < w.heap.size → K b → w'.heap[b]? = w.heap[b]?

theorem Kept.refl (K : Nat → Prop) (w : World) : Kept K w w := ⟨rfl, rfl, rfl, Nat.le_refl _, fun _ _ _ => rfl⟩
theorem Kept.trans {K : Nat → Prop} {a b c : World} (h : Kept K a b) (k : Kept K b c) : Kept K a c :=
  ⟨k.os.trans h.os, k.tape.trans h.tape, k.output.trans h.output, Nat.le_trans h.size k.size, fun i hi hK => (k.block i (Nat.lt_of_lt_of_le hi h.size) hK).trans (h.block i hi hK)⟩
theorem Kept.mono {K K' : Nat → Prop} {w w' : World} (h : Kept K w w') (hk : ∀ b, b < w.heap.size → K' b → K b) : Kept K' w w' :=
  ⟨h.os, h.tape, h.output, h.size, fun i hi hK => h.block i hi (hk i hi hK)⟩
theorem Kept.drew {K : Nat → Prop} {a w : World} (h : Kept K a w) : Kept K a w.drew := ⟨h.os, h.tape, h.output, h.size, h.block⟩
theorem Kept.drewN {K : Nat → Prop} {a w : World} (h : Kept K a w) (n : Nat) : Kept K a (w.drewN n) := ⟨h.os, h.tape, h.output, h.size, h.block⟩
theorem Kept.alloc {K : Nat → Prop} {a w : World} (h : Kept K a w) (o : Obj) : Kept K a (w.alloc o) :=
  h.trans ⟨rfl, rfl, rfl, by simp, fun k hk _ => Below.heap_alloc _ _ _ hk⟩
theorem Kept.setCell {K : Nat → Prop} {a w : World} (h : Kept K a w) {p : Addr} (hp : ¬ K p.block ∨ a.heap.size ≤ p.block) (u : Value) : Kept K a (w.setCell p u) :=
  ⟨h.os, h.tape, h.output, by simpa [World.setCell] using h.size, fun k hk hK => (Below.heap_setCell w p u k (by rintro rfl; rcases hp with hp | hp; exact hp hK; omega)).trans (h.block k hk hK)⟩
theorem Kept.grown {K : Nat → Prop} {a w w' : World} {row : Option Nat} (h : Kept K a w) (hg : w.grownBy w' row) (hr : ∀ k, row = some k → ¬ K k ∨ a.heap.size ≤ k) : Kept K a w' :=
  ⟨hg.os.trans h.os, hg.tape.trans h.tape, hg.output.trans h.output, Nat.le_trans h.size hg.size, fun k hk hK => (hg.block k (Nat.lt_of_lt_of_le hk h.size) (fun e => by rcases hr k e.symm with x | x; exact x hK; omega)).trans (h.block k hk hK)⟩
theorem Kept.below {K : Nat → Prop} {w w' : World} (h : Kept K w w') (hK : ∀ b, b < w.heap.size → K b) : Below w.heap.size w w' := ⟨h.os, h.tape, h.output, h.size, fun k hk => h.block k hk (hK k hk)⟩
theorem Kept.below_of {B : Nat} {w w' : World} (h : Kept (fun b => b < B) w w') (hB : B ≤ w.heap.size) : Below B w w' := ⟨h.os, h.tape, h.output, h.size, fun k hk => h.block k (by omega) hk⟩
theorem Kept.of_below {w w' : World} (h : Below w.heap.size w w') (K : Nat → Prop) : Kept K w w' := ⟨h.os, h.tape, h.output, h.size, fun k hk _ => h.block k hk⟩
theorem Kept.cell {K : Nat → Prop} {w w' : World} (h : Kept K w w') {b o : Nat} (hb : b < w.heap.size) (hK : K b) : w'.cell? ⟨b, o, none⟩ = w.cell? ⟨b, o, none⟩ := World.cell?_of_block (w := w) (h.block b hb hK)

theorem lt_heap {w : World} {b : Nat} {o : Obj} (h : w.heap[b]? = some o) : b < w.heap.size := by
  rcases Nat.lt_or_ge b w.heap.size with h' | h'
  · exact h'
  · simp [Array.getElem?_eq_none h'] at h

theorem cell_new {w : World} {b o : Nat} {cs : Array Value} {t : TypeId} {v : Value} (hb : b = w.heap.size) (h : cs[o]? = some v) : (w.alloc (.cells cs t)).cell? ⟨b, o, none⟩ = some v := by
  subst hb
  rw [World.cell?_alloc_new, h]

theorem cell_old {w : World} {o : Obj} {b i : Nat} (h : b < w.heap.size) : (w.alloc o).cell? ⟨b, i, none⟩ = w.cell? ⟨b, i, none⟩ := World.cell?_of_block (Below.heap_alloc _ _ _ h)
theorem frozen_old {w : World} {o : Obj} {b i : Nat} (h : b < w.heap.size) : (w.alloc o).frozen? ⟨b, i, none⟩ = w.frozen? ⟨b, i, none⟩ := World.frozen?_of_block (Below.heap_alloc _ _ _ h)
theorem cell_apart {w : World} {a : Addr} {v : Value} {b i : Nat} (h : b ≠ a.block) : (w.setCell a v).cell? ⟨b, i, none⟩ = w.cell? ⟨b, i, none⟩ := World.cell?_of_block (Below.heap_setCell _ _ _ _ h)
theorem frozen_apart {w : World} {a : Addr} {v : Value} {b i : Nat} (h : b ≠ a.block) : (w.setCell a v).frozen? ⟨b, i, none⟩ = w.frozen? ⟨b, i, none⟩ := World.frozen?_of_block (Below.heap_setCell _ _ _ _ h)

/-- A call that reads alone, in a region that draws its order. -/
theorem quiet_is {P : Program} {f : FuncId} {args : Array Value} {w : World} {n : Nat} {v : Value} (h : Calls P f args (w.drewN n) fun e w' => e = .returned v ∧ w.drewN n = w') :
    Calls P f args (w.drewN n) fun e w'' => e = .returned v ∧ ∃ m, w'' = w.drewN m := h.mono fun _ _ ⟨he, hm⟩ => ⟨he, n, hm.symm⟩

/-! Rows of cells. -/
def cCells (n : Nat) (c : Nat → Int) : Array Value := ((List.range (n + 1)).map fun i => Value.int .i64 (c i)).toArray
def uCells (n : Nat) (u : Nat → Bool) : Array Value := ((List.range (n + 1)).map fun i => Value.bool (u i)).toArray
def Nd.cell (x : Nd) : Nat → Value
  | 0 => .int .i64 x.tag
  | 1 => .int .i64 x.k0
  | 2 => .int .i64 x.k1
  | 3 => .int .i64 x.k2
  | 4 => .int .i64 x.k3
  | 5 => .int .u64 x.A
  | _ => .int .u64 x.B
def nCells (n : Nat) (nd : Nat → Nd) : Array Value := ((List.range ((n + 1) * 7)).map fun i => (nd (i / 7)).cell (i % 7)).toArray
/-- A node as a value. -/
def Nd.val (x : Nd) : Value := .agg #[.int .i64 x.tag, .int .i64 x.k0, .int .i64 x.k1, .int .i64 x.k2, .int .i64 x.k3, .int .u64 x.A, .int .u64 x.B]

theorem cCells_get {n : Nat} {c : Nat → Int} {h : Nat} (hh : h ≤ n) : (cCells n c)[h]? = some (.int .i64 (c h)) := by
  simp [cCells, List.getElem?_range (show h < n + 1 by omega)]
theorem uCells_get {n : Nat} {u : Nat → Bool} {h : Nat} (hh : h ≤ n) : (uCells n u)[h]? = some (.bool (u h)) := by
  simp [uCells, List.getElem?_range (show h < n + 1 by omega)]
theorem nCells_get {n : Nat} {nd : Nat → Nd} {h j : Nat} (hh : h ≤ n) (hj : j < 7) : (nCells n nd)[h * 7 + j]? = some ((nd h).cell j) := by
  simp only [nCells, List.getElem?_toArray, List.getElem?_map, List.getElem?_range (show h * 7 + j < (n + 1) * 7 by omega), Option.map_some]
  rw [show (h * 7 + j) / 7 = h by omega, show (h * 7 + j) % 7 = j by omega]
theorem cCells_set (n : Nat) (c : Nat → Int) (h : Nat) (v : Int) : (cCells n c).setIfInBounds h (.int .i64 v) = cCells n (upd c h v) := by
  apply Array.ext
  · simp [cCells]
  · intro i h1 h2
    simp only [cCells, upd, List.getElem_toArray, List.getElem_map, List.getElem_range]
    by_cases e : h = i
    · simp [e]
    · simp [e, show ¬ i = h by omega]
theorem uCells_set (n : Nat) (c : Nat → Bool) (h : Nat) (v : Bool) : (uCells n c).setIfInBounds h (.bool v) = uCells n (upd c h v) := by
  apply Array.ext
  · simp [uCells]
  · intro i h1 h2
    simp only [uCells, upd, List.getElem_toArray, List.getElem_map, List.getElem_range]
    by_cases e : h = i
    · simp [e]
    · simp [e, show ¬ i = h by omega]
theorem nCells_set (n : Nat) (nd : Nat → Nd) (h : Nat) (x : Nd) :
    (((((((nCells n nd).setIfInBounds (h * 7) (.int .i64 x.tag)).setIfInBounds (h * 7 + 1) (.int .i64 x.k0)).setIfInBounds (h * 7 + 2) (.int .i64 x.k1)).setIfInBounds (h * 7 + 3) (.int .i64 x.k2)).setIfInBounds (h * 7 + 4) (.int .i64 x.k3)).setIfInBounds (h * 7 + 5) (.int .u64 x.A)).setIfInBounds (h * 7 + 6) (.int .u64 x.B)
      = nCells n (upd nd h x) := by
  apply Array.ext_getElem?
  intro i
  simp only [Array.getElem?_setIfInBounds, Array.size_setIfInBounds]
  by_cases hi : i < (n + 1) * 7
  · have hs : (nCells n nd).size = (n + 1) * 7 := by simp [nCells]
    have g1 : (nCells n (upd nd h x))[i]? = some ((upd nd h x (i / 7)).cell (i % 7)) := by simp [nCells, List.getElem?_range hi]
    have g2 : (nCells n nd)[i]? = some ((nd (i / 7)).cell (i % 7)) := by simp [nCells, List.getElem?_range hi]
    rw [g1, g2, hs]
    by_cases e : i / 7 = h
    · have hi' : i = h * 7 + i % 7 := by omega
      have hm : i % 7 < 7 := Nat.mod_lt _ (by omega)
      rw [upd, if_pos e]
      generalize i % 7 = j at hi' hm
      clear g1 g2 e
      have hc : j = 0 ∨ j = 1 ∨ j = 2 ∨ j = 3 ∨ j = 4 ∨ j = 5 ∨ j = 6 := by omega
      rcases hc with rfl | rfl | rfl | rfl | rfl | rfl | rfl
      · rw [if_neg (by omega), if_neg (by omega), if_neg (by omega), if_neg (by omega), if_neg (by omega), if_neg (by omega), if_pos (by omega), if_pos (by omega)]; rfl
      · rw [if_neg (by omega), if_neg (by omega), if_neg (by omega), if_neg (by omega), if_neg (by omega), if_pos (by omega), if_pos (by omega)]; rfl
      · rw [if_neg (by omega), if_neg (by omega), if_neg (by omega), if_neg (by omega), if_pos (by omega), if_pos (by omega)]; rfl
      · rw [if_neg (by omega), if_neg (by omega), if_neg (by omega), if_pos (by omega), if_pos (by omega)]; rfl
      · rw [if_neg (by omega), if_neg (by omega), if_pos (by omega), if_pos (by omega)]; rfl
      · rw [if_neg (by omega), if_pos (by omega), if_pos (by omega)]; rfl
      · rw [if_pos (by omega), if_pos (by omega)]; rfl
    · rw [upd, if_neg e, if_neg (by omega), if_neg (by omega), if_neg (by omega), if_neg (by omega), if_neg (by omega), if_neg (by omega), if_neg (by omega)]
  · have hs : (nCells n nd).size = (n + 1) * 7 := by simp [nCells]
    have hs' : (nCells n (upd nd h x)).size = (n + 1) * 7 := by simp [nCells]
    rw [Array.getElem?_eq_none (by omega), hs, Array.getElem?_eq_none (by omega)]
    repeat (split; · exact if_neg (by omega))
    rfl

/-- The list of those that wait: a slice over a row of its own; it may begin inside. -/
def Wait (w : World) (K : Nat → Prop) (C : Nat) (v : Value) (l : List Int) : Prop :=
  (v = .slice none 0 0 ∧ l = []) ∨
  ∃ g off cap cs, v = .slice (some ⟨g, off, none⟩) l.length cap ∧ g ≠ C ∧ ¬ K g ∧ w.heap[g]? = some (.cells cs 3 (0, 0)) ∧ l.length ≤ cap ∧ off + cap ≤ cs.size ∧ cap ≤ maxLen ∧
    ∀ i, i < l.length → cs[off + i]? = some (.int .i64 (l.getD i 0))

/-- The arena s lies at block p; its rows are N, C, U; the list of those that wait is wv; none of its blocks is one of K. -/
structure ArsAt (w : World) (K : Nat → Prop) (p : Nat) (s : Ar) (N C U : Nat) (wv : Value) : Prop where
  hp : w.heap[p]? = some (.cells #[.slice (some ⟨N, 0, none⟩) (s.n + 1) (s.n + 1), .slice (some ⟨C, 0, none⟩) (s.n + 1) (s.n + 1), .slice (some ⟨U, 0, none⟩) (s.n + 1) (s.n + 1), wv, .int .i64 s.busy, .int .i64 s.made] 60 (0, 0))
  hN : w.heap[N]? = some (.cells (nCells s.n s.nd) 64 (0, 0))
  hC : w.heap[C]? = some (.cells (cCells s.n s.c) 3 (0, 0))
  hU : w.heap[U]? = some (.cells (uCells s.n s.u) 4 (0, 0))
  kp : ¬ K p
  kN : ¬ K N
  kC : ¬ K C
  kU : ¬ K U
  hW : Wait w K C wv s.wt
  kK : ∀ b, K b → b < w.heap.size
def Ars (w : World) (K : Nat → Prop) (p : Nat) (s : Ar) : Prop := ∃ N C U wv, ArsAt w K p s N C U wv

theorem blk_ne {w : World} {a b : Nat} {c d : Array Value} {s t : TypeId} (h : w.heap[a]? = some (.cells c s (0, 0))) (k : w.heap[b]? = some (.cells d t (0, 0))) (hst : s ≠ t) : a ≠ b := by
  rintro rfl
  rw [h] at k
  injection k with k
  injection k with _ k
  exact hst k

section
variable {w : World} {K : Nat → Prop} {p : Nat} {s : Ar} {N C U : Nat} {wv : Value}
theorem Wait.kept {w' : World} {l : List Int} (h : Wait w K C wv l) (hk : ∀ b, b < w.heap.size → ¬ K b → b ≠ C → ∀ cs, w.heap[b]? = some (.cells cs 3 (0, 0)) → w'.heap[b]? = w.heap[b]?) : Wait w' K C wv l := by
  rcases h with h5 | ⟨g, off, cap, cs, e, n1, n2, n3, n4⟩
  · exact .inl h5
  · exact .inr ⟨g, off, cap, cs, e, n1, n2, (hk _ (lt_heap n3) n2 n1 cs n3).trans n3, n4⟩
theorem ArsAt.cell (h : ArsAt w K p s N C U wv) (i : Nat) : w.cell? ⟨p, i, none⟩ = (#[.slice (some ⟨N, 0, none⟩) (s.n + 1) (s.n + 1), .slice (some ⟨C, 0, none⟩) (s.n + 1) (s.n + 1), .slice (some ⟨U, 0, none⟩) (s.n + 1) (s.n + 1), wv, .int .i64 s.busy, .int .i64 s.made] : Array Value)[i]? := cell_of_row _ _ _ _ _ _ h.hp
theorem ArsAt.c0 (h : ArsAt w K p s N C U wv) : w.cell? ⟨p, 0, none⟩ = some (.slice (some ⟨N, 0, none⟩) (s.n + 1) (s.n + 1)) := h.cell 0
theorem ArsAt.c1 (h : ArsAt w K p s N C U wv) : w.cell? ⟨p, 1, none⟩ = some (.slice (some ⟨C, 0, none⟩) (s.n + 1) (s.n + 1)) := h.cell 1
theorem ArsAt.c2 (h : ArsAt w K p s N C U wv) : w.cell? ⟨p, 2, none⟩ = some (.slice (some ⟨U, 0, none⟩) (s.n + 1) (s.n + 1)) := h.cell 2
theorem ArsAt.c3 (h : ArsAt w K p s N C U wv) : w.cell? ⟨p, 3, none⟩ = some wv := h.cell 3
theorem ArsAt.c4 (h : ArsAt w K p s N C U wv) : w.cell? ⟨p, 4, none⟩ = some (.int .i64 s.busy) := h.cell 4
theorem ArsAt.c5 (h : ArsAt w K p s N C U wv) : w.cell? ⟨p, 5, none⟩ = some (.int .i64 s.made) := h.cell 5
theorem ArsAt.f (h : ArsAt w K p s N C U wv) (i : Nat) : w.frozen? ⟨p, i, none⟩ = false := frozen_of_row _ _ _ _ _ h.hp
theorem ArsAt.fN (h : ArsAt w K p s N C U wv) (i : Nat) : w.frozen? ⟨N, i, none⟩ = false := frozen_of_row _ _ _ _ _ h.hN
theorem ArsAt.fC (h : ArsAt w K p s N C U wv) (i : Nat) : w.frozen? ⟨C, i, none⟩ = false := frozen_of_row _ _ _ _ _ h.hC
theorem ArsAt.fU (h : ArsAt w K p s N C U wv) (i : Nat) : w.frozen? ⟨U, i, none⟩ = false := frozen_of_row _ _ _ _ _ h.hU
theorem ArsAt.count (h : ArsAt w K p s N C U wv) {i : Nat} (hi : i ≤ s.n) : w.cell? ⟨C, i, none⟩ = some (.int .i64 (s.c i)) := (cell_of_row _ _ _ _ _ _ h.hC).trans (cCells_get hi)
theorem ArsAt.used (h : ArsAt w K p s N C U wv) {i : Nat} (hi : i ≤ s.n) : w.cell? ⟨U, i, none⟩ = some (.bool (s.u i)) := (cell_of_row _ _ _ _ _ _ h.hU).trans (uCells_get hi)
theorem ArsAt.node (h : ArsAt w K p s N C U wv) {i j : Nat} (hi : i ≤ s.n) (hj : j < 7) : w.cell? ⟨N, i * 7 + j, none⟩ = some ((s.nd i).cell j) := (cell_of_row _ _ _ _ _ _ h.hN).trans (nCells_get hi hj)

theorem ArsAt.setC (h : ArsAt w K p s N C U wv) (i : Nat) (v : Int) : ArsAt (w.setCell ⟨C, i, none⟩ (.int .i64 v)) K p { s with c := upd s.c i v } N C U wv := by
  have e1 := blk_ne h.hp h.hC (by decide)
  have e2 := blk_ne h.hN h.hC (by decide)
  have e3 := blk_ne h.hU h.hC (by decide)
  refine ⟨(heap_setCell_other _ _ _ _ e1).trans h.hp, (heap_setCell_other _ _ _ _ e2).trans h.hN, ?_, (heap_setCell_other _ _ _ _ e3).trans h.hU, h.kp, h.kN, h.kC, h.kU, h.hW.kept fun b _ _ hb _ _ => heap_setCell_other _ _ _ _ hb, by simpa [World.setCell] using h.kK⟩
  rw [heap_setCell_same _ _ _ _ _ _ h.hC, cCells_set]
theorem ArsAt.setU (h : ArsAt w K p s N C U wv) (i : Nat) (v : Bool) : ArsAt (w.setCell ⟨U, i, none⟩ (.bool v)) K p { s with u := upd s.u i v } N C U wv := by
  have e1 := blk_ne h.hp h.hU (by decide)
  have e2 := blk_ne h.hN h.hU (by decide)
  have e3 := blk_ne h.hC h.hU (by decide)
  refine ⟨(heap_setCell_other _ _ _ _ e1).trans h.hp, (heap_setCell_other _ _ _ _ e2).trans h.hN, (heap_setCell_other _ _ _ _ e3).trans h.hC, ?_, h.kp, h.kN, h.kC, h.kU, h.hW.kept fun b _ _ _ cs hb => heap_setCell_other _ _ _ _ (blk_ne hb h.hU (by decide)), by simpa [World.setCell] using h.kK⟩
  rw [heap_setCell_same _ _ _ _ _ _ h.hU, uCells_set]
/-- A node's seven cells are set. -/
def setNode (w : World) (N i : Nat) (x : Nd) : World :=
  ((((((w.setCell ⟨N, i * 7, none⟩ (.int .i64 x.tag)).setCell ⟨N, i * 7 + 1, none⟩ (.int .i64 x.k0)).setCell ⟨N, i * 7 + 2, none⟩ (.int .i64 x.k1)).setCell ⟨N, i * 7 + 3, none⟩ (.int .i64 x.k2)).setCell ⟨N, i * 7 + 4, none⟩ (.int .i64 x.k3)).setCell ⟨N, i * 7 + 5, none⟩ (.int .u64 x.A)).setCell ⟨N, i * 7 + 6, none⟩ (.int .u64 x.B)
theorem setNode_other (w : World) (N i : Nat) (x : Nd) {b : Nat} (hb : b ≠ N) : (setNode w N i x).heap[b]? = w.heap[b]? := by
  unfold setNode
  rw [heap_setCell_other _ _ _ _ hb, heap_setCell_other _ _ _ _ hb, heap_setCell_other _ _ _ _ hb, heap_setCell_other _ _ _ _ hb, heap_setCell_other _ _ _ _ hb, heap_setCell_other _ _ _ _ hb, heap_setCell_other _ _ _ _ hb]
theorem ArsAt.setN (h : ArsAt w K p s N C U wv) (i : Nat) (x : Nd) : ArsAt (setNode w N i x) K p { s with nd := upd s.nd i x } N C U wv := by
  have e1 := blk_ne h.hp h.hN (by decide)
  have e2 := blk_ne h.hU h.hN (by decide)
  have e3 := blk_ne h.hC h.hN (by decide)
  refine ⟨(setNode_other _ _ _ _ e1).trans h.hp, ?_, (setNode_other _ _ _ _ e3).trans h.hC, (setNode_other _ _ _ _ e2).trans h.hU, h.kp, h.kN, h.kC, h.kU, h.hW.kept fun b _ _ _ cs hb => setNode_other _ _ _ _ (blk_ne hb h.hN (by decide)), by simpa [setNode, World.setCell] using h.kK⟩
  unfold setNode
  rw [heap_setCell_same _ _ _ _ 64 _ (heap_setCell_same _ _ _ _ 64 _ (heap_setCell_same _ _ _ _ 64 _ (heap_setCell_same _ _ _ _ 64 _ (heap_setCell_same _ _ _ _ 64 _ (heap_setCell_same _ _ _ _ 64 _ (heap_setCell_same _ _ _ _ 64 _ h.hN)))))), nCells_set]
theorem ArsAt.setBusy (h : ArsAt w K p s N C U wv) (v : Int) : ArsAt (w.setCell ⟨p, 4, none⟩ (.int .i64 v)) K p { s with busy := v } N C U wv := by
  have e1 := blk_ne h.hN h.hp (by decide)
  have e2 := blk_ne h.hC h.hp (by decide)
  have e3 := blk_ne h.hU h.hp (by decide)
  refine ⟨?_, (heap_setCell_other _ _ _ _ e1).trans h.hN, (heap_setCell_other _ _ _ _ e2).trans h.hC, (heap_setCell_other _ _ _ _ e3).trans h.hU, h.kp, h.kN, h.kC, h.kU, h.hW.kept fun b _ _ _ cs hb => heap_setCell_other _ _ _ _ (blk_ne hb h.hp (by decide)), by simpa [World.setCell] using h.kK⟩
  rw [heap_setCell_same _ _ _ _ _ _ h.hp]
  rfl
theorem ArsAt.setMade (h : ArsAt w K p s N C U wv) (v : Int) : ArsAt (w.setCell ⟨p, 5, none⟩ (.int .i64 v)) K p { s with made := v } N C U wv := by
  have e1 := blk_ne h.hN h.hp (by decide)
  have e2 := blk_ne h.hC h.hp (by decide)
  have e3 := blk_ne h.hU h.hp (by decide)
  refine ⟨?_, (heap_setCell_other _ _ _ _ e1).trans h.hN, (heap_setCell_other _ _ _ _ e2).trans h.hC, (heap_setCell_other _ _ _ _ e3).trans h.hU, h.kp, h.kN, h.kC, h.kU, h.hW.kept fun b _ _ _ cs hb => heap_setCell_other _ _ _ _ (blk_ne hb h.hp (by decide)), by simpa [World.setCell] using h.kK⟩
  rw [heap_setCell_same _ _ _ _ _ _ h.hp]
  rfl
/-- Another list of those that wait. -/
theorem ArsAt.setWait (h : ArsAt w K p s N C U wv) {v : Value} {l : List Int} (hv : Wait w K C v l) : ArsAt (w.setCell ⟨p, 3, none⟩ v) K p { s with wt := l } N C U v := by
  have e1 := blk_ne h.hN h.hp (by decide)
  have e2 := blk_ne h.hC h.hp (by decide)
  have e3 := blk_ne h.hU h.hp (by decide)
  refine ⟨?_, (heap_setCell_other _ _ _ _ e1).trans h.hN, (heap_setCell_other _ _ _ _ e2).trans h.hC, (heap_setCell_other _ _ _ _ e3).trans h.hU, h.kp, h.kN, h.kC, h.kU, hv.kept fun b _ _ _ cs hb => heap_setCell_other _ _ _ _ (blk_ne hb h.hp (by decide)), by simpa [World.setCell] using h.kK⟩
  rw [heap_setCell_same _ _ _ _ _ _ h.hp]
  rfl
theorem ArsAt.ars (h : ArsAt w K p s N C U wv) : Ars w K p s := ⟨N, C, U, wv, h⟩
/-- A change of what is none of the arena's. -/
theorem ArsAt.kept {w' : World} (h : ArsAt w K p s N C U wv) (hs : w.heap.size ≤ w'.heap.size) (hk : ∀ b, b < w.heap.size → ¬ K b → w'.heap[b]? = w.heap[b]?) : ArsAt w' K p s N C U wv :=
  ⟨(hk _ (lt_heap h.hp) h.kp).trans h.hp, (hk _ (lt_heap h.hN) h.kN).trans h.hN, (hk _ (lt_heap h.hC) h.kC).trans h.hC, (hk _ (lt_heap h.hU) h.kU).trans h.hU, h.kp, h.kN, h.kC, h.kU, h.hW.kept fun b hb hn _ _ _ => hk b hb hn, fun b hb => Nat.lt_of_lt_of_le (h.kK b hb) hs⟩
/-- More is kept from the arena. -/
theorem ArsAt.more {K' : Nat → Prop} (h : ArsAt w K p s N C U wv) (hk : ∀ b, K' b → K b) : ArsAt w K' p s N C U wv := by
  refine ⟨h.hp, h.hN, h.hC, h.hU, fun e => h.kp (hk _ e), fun e => h.kN (hk _ e), fun e => h.kC (hk _ e), fun e => h.kU (hk _ e), ?_, fun b hb => h.kK b (hk b hb)⟩
  rcases h.hW with h5 | ⟨g, off, cap, cs, e, n1, n2, n3, n4⟩
  · exact .inl h5
  · exact .inr ⟨g, off, cap, cs, e, n1, fun e => n2 (hk _ e), n3, n4⟩
theorem ArsAt.alloc (h : ArsAt w K p s N C U wv) (o : Obj) : ArsAt (w.alloc o) K p s N C U wv := h.kept (by simp) fun b hb _ => Below.heap_alloc _ _ _ hb
end
theorem Ars.kept {w w' : World} {K : Nat → Prop} {p : Nat} {s : Ar} (h : Ars w K p s) (hs : w.heap.size ≤ w'.heap.size) (hk : ∀ b, b < w.heap.size → ¬ K b → w'.heap[b]? = w.heap[b]?) : Ars w' K p s := by
  obtain ⟨N, C, U, wv, h⟩ := h
  exact ⟨N, C, U, wv, h.kept hs hk⟩
theorem Ars.more {w : World} {K K' : Nat → Prop} {p : Nat} {s : Ar} (h : Ars w K p s) (hk : ∀ b, K' b → K b) : Ars w K' p s := by
  obtain ⟨N, C, U, wv, h⟩ := h
  exact ⟨N, C, U, wv, h.more hk⟩
theorem Ars.alloc {w : World} {K : Nat → Prop} {p : Nat} {s : Ar} (h : Ars w K p s) (o : Obj) : Ars (w.alloc o) K p s := h.kept (by simp) fun b hb _ => Below.heap_alloc _ _ _ hb
theorem Ars.below {w w' : World} {K : Nat → Prop} {p : Nat} {s : Ar} (h : Ars w K p s) (hb : Below w.heap.size w w') : Ars w' K p s := h.kept hb.size fun b hb' _ => hb.block b hb'
theorem Ars.drew {w : World} {K : Nat → Prop} {p : Nat} {s : Ar} (h : Ars w K p s) : Ars w.drew K p s := h.kept (Nat.le_refl _) fun _ _ _ => rfl
theorem Ars.drewN {w : World} {K : Nat → Prop} {p : Nat} {s : Ar} (h : Ars w K p s) (n : Nat) : Ars (w.drewN n) K p s := h.kept (Nat.le_refl _) fun _ _ _ => rfl
theorem Ars.setCell {w : World} {K : Nat → Prop} {p : Nat} {s : Ar} (h : Ars w K p s) {q : Addr} (hq : K q.block) (v : Value) : Ars (w.setCell q v) K p s :=
  h.kept (by simp [World.setCell]) fun b _ hb => Below.heap_setCell _ _ _ _ (by rintro rfl; exact hb hq)
theorem Ars.lt {w : World} {K : Nat → Prop} {p : Nat} {s : Ar} (h : Ars w K p s) : ∀ b, K b → b < w.heap.size := by
  obtain ⟨N, C, U, wv, h⟩ := h
  exact h.kK
theorem Ars.plt {w : World} {K : Nat → Prop} {p : Nat} {s : Ar} (h : Ars w K p s) : p < w.heap.size := by
  obtain ⟨N, C, U, wv, h⟩ := h
  exact lt_heap h.hp
theorem Ars.pK {w : World} {K : Nat → Prop} {p : Nat} {s : Ar} (h : Ars w K p s) : ¬ K p := by
  obtain ⟨N, C, U, wv, h⟩ := h
  exact h.kp
/-- What is new is none of the arena's. -/
theorem Ars.newK {w w' : World} {K K' : Nat → Prop} {p : Nat} {s : Ar} (h : Ars w K p s) (hb : Below w.heap.size w w') (hk : ∀ b, K' b → b < w'.heap.size ∧ (K b ∨ w.heap.size ≤ b)) : Ars w' K' p s := by
  obtain ⟨N, C, U, wv, h⟩ := h
  have g := h.kept hb.size fun b hb' _ => hb.block b hb'
  have ne : ∀ b, b < w.heap.size → ¬ K b → ¬ K' b := fun b hlt hn e => by rcases (hk b e).2 with x | x; exact hn x; omega
  refine ⟨N, C, U, wv, g.hp, g.hN, g.hC, g.hU, ne _ (lt_heap h.hp) h.kp, ne _ (lt_heap h.hN) h.kN, ne _ (lt_heap h.hC) h.kC, ne _ (lt_heap h.hU) h.kU, ?_, fun b e => (hk b e).1⟩
  rcases h.hW with h5 | ⟨g', off, cap, cs, e, n1, n2, n3, n4⟩
  · exact .inl h5
  · exact .inr ⟨g', off, cap, cs, e, n1, ne _ (lt_heap n3) n2, (hb.block _ (lt_heap n3)).trans n3, n4⟩
theorem Ars.allocK {w : World} {K : Nat → Prop} {p : Nat} {s : Ar} (h : Ars w K p s) (o : Obj) : Ars (w.alloc o) (fun b => K b ∨ b = w.heap.size) p s :=
  h.newK ((Below.refl _ _).alloc (Nat.le_refl _) _) fun b hb => by
    rcases hb with hb | rfl
    · exact ⟨by have := h.lt b hb; simp; omega, .inl hb⟩
    · exact ⟨by simp, .inr (Nat.le_refl _)⟩

theorem info_int : (Try.prog.info? 3).map (fun i => (i.zero, i.size, i.bytes)) = some (some (.int .i64 0), 1, 8) := by kernel_rfl

end Go.Proofs.Ytcdmebjggdhhdaa
