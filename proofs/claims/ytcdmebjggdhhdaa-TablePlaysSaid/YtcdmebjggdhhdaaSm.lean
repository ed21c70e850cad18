/- A set of numbers, as a map to booleans that the caller itself makes. -/
import Derived.Test.YtcdmebjggdhhdaaMem
import Derived.Maps.OwnOps
import Derived.Maps.Views
import Derived.Maps.OwnSet
namespace Go.Proofs.Ytcdmebjggdhhdaa
set_option maxRecDepth 100000
open Go.RowKit Go.Maps

theorem skeyed_int : Keyed Try.prog 3 := int_keyed Try.underlying3
theorem zero_bool (w : World) : (zeroValue 4).run Try.prog w = .ok (.bool false) w := by kernel_rfl

/-- Block b is a map that holds true at the numbers xs, each once, and nothing else. -/
def SMap (w : World) (b : Nat) (xs : List Int) : Prop :=
  ∃ D : DataW Unit, w.ownsMap Try.prog 3 (plainElem Try.prog 4) b xs.length D ∧ (∀ k, (Lit.int .i64 k).wf = true → D.atKey (.int .i64 k) (.lit (.bool false)) = .lit (.bool (decide (k ∈ xs)))) ∧ (∀ k, (Lit.int .i64 k).wf = true → has D (.int .i64 k) = decide (k ∈ xs)) ∧ size D = xs.length

theorem SMap.new (w : World) : SMap (w.alloc (.map #[] 0)) w.heap.size [] := ⟨.map [], World.ownsMap_made _ _ _ _, fun _ _ => rfl, fun _ _ => rfl, rfl⟩
theorem SMap.lt {w : World} {b : Nat} {xs : List Int} (h : SMap w b xs) : b < w.heap.size := by
  obtain ⟨D, h, _⟩ := h
  exact h.lt
theorem SMap.same {w w' : World} {b : Nat} {xs : List Int} (h : SMap w b xs) (hb : w'.heap[b]? = w.heap[b]?) : SMap w' b xs := by
  obtain ⟨D, ⟨es, clock, h1, h2⟩, h3⟩ := h
  exact ⟨D, ⟨es, clock, hb.trans h1, h2⟩, h3⟩
theorem SMap.below {w w' : World} {b : Nat} {xs : List Int} (h : SMap w b xs) (hb : Below w.heap.size w w') : SMap w' b xs := h.same (hb.block b h.lt)
/-- What is looked up. -/
theorem SMap.look {w : World} {b : Nat} {xs : List Int} (h : SMap w b xs) {k : Int} (hk : (Lit.int .i64 k).wf = true) :
    (Instr.lookup 76 (.map (some b)) (.int .i64 k) false).run Try.prog w = .ok (.bool (decide (k ∈ xs))) w := by
  obtain ⟨D, h, hat, _⟩ := h
  obtain ⟨v, ps, hrun, hv⟩ := h.lookup skeyed_int Try.underlying76 (zero_bool w) (plainElem_bool Try.underlying4 false) (keyOf_int_mk Try.underlying3 hk)
  rw [hat k hk] at hv
  unfold plainElem at hv
  rw [Try.underlying4] at hv
  cases v <;> simp at hv
  rw [hrun, hv.1]
theorem SMap.len {w : World} {b : Nat} {xs : List Int} (h : SMap w b xs) (ty : TypeId) : (Builtin.len_ #[76] ty #[.map (some b)]).run Try.prog w = .ok (.int .i64 xs.length) w := by
  obtain ⟨D, h, _, _, hs⟩ := h
  rw [← hs]
  exact h.len Try.underlying76 ty
/-- What is put in. -/
theorem wpList_smap_put {w : World} {b : Nat} {xs : List Int} (hm : SMap w b xs) (hn : xs.length ≤ 1000000000) {ops : Array Oper} {rest : List Oper} {o : Oper} {a : Act} {Q : Exit → Act → World → Prop}
    (hg : o.guard = none) (m x v : Operand) (hop : o.op = Op.mapUpdate 76 m x v) (h1 : a.eval m = .map (some b)) (k : Int) (h2 : a.eval x = .int .i64 k) (h3 : a.eval v = .bool true) (hk : (Lit.int .i64 k).wf = true) (hnew : ¬ k ∈ xs)
    (h : ∀ w', SMap w' b (k :: xs) → w.grownBy w' (some b) → wpList Try.prog ops Q rest (a.put o.dst undef) w') : wpList Try.prog ops Q (o :: rest) a w := by
  obtain ⟨D, hD, hat, hhas, hsz⟩ := hm
  refine wpList_mapUpdate_own w hg m x v 76 hop 3 4 skeyed_int Try.underlying76 (plainElem Try.prog 4) b _ D h1 hD (by unfold maxLen; omega) _ _ (.int .i64 k) h2 h3 (keyOf_int_mk Try.underlying3 hk) (.lit (.bool true)) [] (plainElem_bool Try.underlying4 true) fun w' r1 r2 => h w' ⟨_, r1, fun j hj => ?_, fun j hj => ?_, ?_⟩ r2
  · by_cases e : j = k
    · subst e
      rw [atKey_put_same hD.isMap (by trivial)]
      simp
    · rw [atKey_put_other (by intro e'; injection e' with _ e'; exact e e'), hat j hj]
      simp [e]
  · by_cases e : j = k
    · subst e
      rw [has_put_same hD.isMap (by trivial)]
      simp
    · rw [has_put_other (by intro e'; injection e' with _ e'; exact e e'), hhas j hj]
      simp [e]
  · rw [size_put (hD.tidy skeyed_int), hhas k hk, hsz]
    simp [hnew]
end Go.Proofs.Ytcdmebjggdhhdaa
