/- A map from numbers to numbers that the caller itself makes. -/
import Derived.Test.YtjndhjmbdhfclaaMem
import Derived.Maps.OwnOps
import Derived.Maps.Views
import Derived.Maps.OwnSet
namespace Go.Proofs.Ytjndhjmbdhfclaa
set_option maxRecDepth 100000
open Go.RowKit Go.Maps

theorem keyed_int : Keyed Try.prog 3 := int_keyed Try.underlying3
theorem zero_int (w : World) : (zeroValue 3).run Try.prog w = .ok (.int .i64 0) w := by kernel_rfl
def updI (f : Int → Int) (k v : Int) : Int → Int := fun j => if j = k then v else f j

/-- Block b is a map that reads as f; it has at most n entries. -/
def IMap (w : World) (b n : Nat) (f : Int → Int) : Prop :=
  ∃ D : DataW Unit, w.ownsMap Try.prog 3 (plainElem Try.prog 3) b n D ∧ ∀ k, (Lit.int .i64 k).wf = true → D.atKey (.int .i64 k) (.lit (.int .i64 0)) = .lit (.int .i64 (f k))

theorem IMap.new (w : World) : IMap (w.alloc (.map #[] 0)) w.heap.size 0 fun _ => 0 := ⟨.map [], World.ownsMap_made _ _ _ _, fun _ _ => rfl⟩
theorem IMap.lt {w : World} {b n : Nat} {f : Int → Int} (h : IMap w b n f) : b < w.heap.size := by
  obtain ⟨D, h, _⟩ := h
  exact h.lt
theorem IMap.same {w w' : World} {b n : Nat} {f : Int → Int} (h : IMap w b n f) (hb : w'.heap[b]? = w.heap[b]?) : IMap w' b n f := by
  obtain ⟨D, ⟨es, clock, h1, h2⟩, h3⟩ := h
  exact ⟨D, ⟨es, clock, hb.trans h1, h2⟩, h3⟩
theorem IMap.kept {w w' : World} {K : Nat → Prop} {b n : Nat} {f : Int → Int} (h : IMap w b n f) (hk : Kept K w w') (hb : K b) : IMap w' b n f := h.same (hk.block b h.lt hb)
theorem IMap.mono {w : World} {b n n' : Nat} {f : Int → Int} (h : IMap w b n f) (hn : n ≤ n') : IMap w b n' f := by
  obtain ⟨D, h, k⟩ := h
  exact ⟨D, h.mono hn, k⟩
theorem IMap.congr {w : World} {b n : Nat} {f g : Int → Int} (h : IMap w b n f) (hg : ∀ k, (Lit.int .i64 k).wf = true → f k = g k) : IMap w b n g := by
  obtain ⟨D, h, k⟩ := h
  exact ⟨D, h, fun x hx => by rw [k x hx, hg x hx]⟩
theorem IMap.drewN {w : World} {b n : Nat} {f : Int → Int} (h : IMap w b n f) (m : Nat) : IMap (w.drewN m) b n f := h.same rfl
/-- What is looked up. -/
theorem IMap.look {w : World} {b n : Nat} {f : Int → Int} (h : IMap w b n f) {k : Int} (hk : (Lit.int .i64 k).wf = true) :
    (Instr.lookup 66 (.map (some b)) (.int .i64 k) false).run Try.prog w = .ok (.int .i64 (f k)) w := by
  obtain ⟨D, h, hat⟩ := h
  obtain ⟨c, hrun, hc, _⟩ := h.lookup_int keyed_int Try.underlying66 Try.underlying3 (zero_int w) (keyOf_int_mk Try.underlying3 hk)
  rw [hat k hk] at hc
  injection hc with hc
  injection hc with _ hc
  rw [hrun, hc]
/-- What is put in. -/
theorem wpList_imap_put {w : World} {b n : Nat} {f : Int → Int} (hm : IMap w b n f) (hn : n ≤ 1000000000) {ops : Array Oper} {rest : List Oper} {o : Oper} {a : Act} {Q : Exit → Act → World → Prop}
    (hg : o.guard = none) (m x v : Operand) (hop : o.op = Op.mapUpdate 66 m x v) (h1 : a.eval m = .map (some b)) (k y : Int) (h2 : a.eval x = .int .i64 k) (h3 : a.eval v = .int .i64 y) (hk : (Lit.int .i64 k).wf = true) (hy : (Lit.int .i64 y).wf = true)
    (h : ∀ w', IMap w' b (n + 1) (updI f k y) → w.grownBy w' (some b) → wpList Try.prog ops Q rest (a.put o.dst undef) w') : wpList Try.prog ops Q (o :: rest) a w := by
  obtain ⟨D, hD, hat⟩ := hm
  refine wpList_mapUpdate_own w hg m x v 66 hop 3 3 keyed_int Try.underlying66 (plainElem Try.prog 3) b n D h1 hD (by unfold maxLen; omega) _ _ (.int .i64 k) h2 h3 (keyOf_int_mk Try.underlying3 hk) (.lit (.int .i64 y)) [] (plainElem_int Try.underlying3 hy) fun w' r1 r2 => h w' ⟨_, r1, fun j hj => ?_⟩ r2
  unfold updI
  by_cases e : j = k
  · subst e
    rw [if_pos rfl, atKey_put_same hD.isMap (by trivial)]
  · rw [if_neg e, atKey_put_other (by intro e'; injection e' with _ e'; exact e e')]
    exact hat j hj
end Go.Proofs.Ytjndhjmbdhfclaa
