/- An argument that is a list of structs of numbers: each cell by its kind. -/
import Derived.Test.YtcdmebjggdhhdaaArg
import Derived.Deep.Slices
import Derived.OpenShut
namespace Go.Proofs.Ytcdmebjggdhhdaa
open Go.ChangeShapes Go.WideShapes Go.ChangeAt Go.RowKit

inductive Lk where
  | int (k : IntKind)
  | bool
def Lk.ok : Lk → Value → Prop
  | .int k, v => ∃ n, v = .int k n ∧ (Lit.int k n).wf = true
  | .bool, v => ∃ b, v = .bool b
def flatFields (P : Program) (g : TypeId → Option (List Lk)) : List Field → Nat → Option (List Lk)
  | [], _ => some []
  | f :: r, o => match g f.type, flatFields P g r (o + P.cellsOf f.type) with
    | some a, some b => if f.offset = o ∧ P.cellsOf f.type = a.length then some (a ++ b) else none
    | _, _ => none
/-- The kinds of a type's cells. -/
def flat (P : Program) : Nat → TypeId → Option (List Lk)
  | 0, _ => none
  | n + 1, t => match P.underlying t with
    | some .bool => some [.bool]
    | some (.int k) => some [.int k]
    | some (.struct fs) => match flatFields P (flat P n) fs.toList 0 with
      | some a => if P.cellsOf t = a.length then some a else none
      | none => none
    | some (.array m e) => match flat P n e with
      | some a => if P.cellsOf t = m * a.length ∧ P.cellsOf e = a.length then some (List.replicate m a).flatten else none
      | none => none
    | _ => none
inductive Oks : List Lk → List Value → Prop
  | nil : Oks [] []
  | cons {k v ks vs} : Lk.ok k v → Oks ks vs → Oks (k :: ks) (v :: vs)
theorem Oks.append {a b : List Lk} {x y : List Value} (h : Oks a x) (k : Oks b y) : Oks (a ++ b) (x ++ y) := by
  induction h with
  | nil => exact k
  | cons h _ ih => exact .cons h ih
theorem Oks.length {a : List Lk} {x : List Value} (h : Oks a x) : x.length = a.length := by
  induction h with
  | nil => rfl
  | cons _ _ ih => simp [ih]
section
variable {H : Type} {enc : TypeId × Value → H} {P : Program} {w : World} {base : Nat} {spare : Nat → Bool} {held : Bool}
theorem flat_fields {g : TypeId → Option (List Lk)} {cs : List Value} (hg : ∀ t c ks x m, g t = some ks → DataW.trod enc P w base spare held m t c = some x → Oks ks c) :
    ∀ (fs : List Field) (o : Nat) (ks : List Lk), flatFields P g fs o = some ks → (∀ f, f ∈ fs → ∃ m x, DataW.trod enc P w base spare held m f.type ((cs.drop f.offset).take (P.cellsOf f.type)) = some x) →
      Oks ks ((cs.drop o).take ks.length)
  | [], o, ks, h, _ => by
    simp only [flatFields, Option.some.injEq] at h
    subst h
    simpa using Oks.nil
  | f :: r, o, ks, h, hf => by
    unfold flatFields at h
    cases ha : g f.type with
    | none => rw [ha] at h; simp at h
    | some a =>
      cases hb : flatFields P g r (o + P.cellsOf f.type) with
      | none => rw [ha, hb] at h; simp at h
      | some b =>
        rw [ha, hb] at h
        simp only at h
        split at h
        · rename_i hc
          obtain ⟨ho, hl⟩ := hc
          injection h with h
          subst h
          obtain ⟨m, x, hx⟩ := hf f (by simp)
          have h1 := hg _ _ _ _ _ ha hx
          have h2 := flat_fields hg r _ b hb fun f' hf' => hf f' (List.mem_cons_of_mem _ hf')
          have := h1.append h2
          rw [ho, hl] at this
          have e : (cs.drop o).take a.length ++ (cs.drop (o + a.length)).take b.length = (cs.drop o).take (a ++ b).length := by
            rw [List.length_append, List.take_add, List.drop_drop]
          rwa [e] at this
        · cases h
theorem flat_array {cs : List Value} {a : List Lk} : ∀ (m o : Nat), (∀ i, i < m → Oks a ((cs.drop ((o + i) * a.length)).take a.length)) → Oks (List.replicate m a).flatten ((cs.drop (o * a.length)).take (m * a.length))
  | 0, o, _ => by simpa using Oks.nil
  | m + 1, o, h => by
    have h1 := h 0 (by omega)
    have h2 := flat_array (cs := cs) (a := a) m (o + 1) fun i hi => by have := h (i + 1) (by omega); rwa [show o + (i + 1) = o + 1 + i by omega] at this
    have := h1.append h2
    rw [Nat.add_zero] at this
    have e : (cs.drop (o * a.length)).take a.length ++ (cs.drop ((o + 1) * a.length)).take (m * a.length) = (cs.drop (o * a.length)).take ((m + 1) * a.length) := by
      rw [show (m + 1) * a.length = a.length + m * a.length by rw [Nat.add_mul]; omega, List.take_add, List.drop_drop, show (o + 1) * a.length = o * a.length + a.length by rw [Nat.add_mul]; omega]
    rw [e] at this
    rw [List.replicate_succ, List.flatten_cons]
    exact this
theorem flat_oks : ∀ (n : Nat) (t : TypeId) (cs : List Value) (ks : List Lk) (x : DataW H × List MemPlace) (m : Nat), flat P n t = some ks → DataW.trod enc P w base spare held m t cs = some x → Oks ks cs
  | 0, t, cs, ks, x, m, h, _ => by simp [flat] at h
  | n + 1, t, cs, ks, x, m, h, hx => by
    unfold flat at h
    split at h
    · rename_i hu
      injection h with h
      subst h
      obtain ⟨b, rfl, _⟩ := DataW.trod_bool hu hx
      exact .cons ⟨b, rfl⟩ .nil
    · rename_i k hu
      injection h with h
      subst h
      obtain ⟨i, rfl, _, hw⟩ := DataW.trod_int hu hx
      exact .cons ⟨i, rfl, hw⟩ .nil
    · rename_i fs hu
      obtain ⟨xs, m', hm', hx', hlen, hl, hf⟩ := DataW.trod_struct hu hx
      split at h
      · rename_i a ha
        split at h
        · rename_i hc
          injection h with h
          subst h
          have := flat_fields (cs := cs) (fun t c ks x m h1 h2 => flat_oks n t c ks x m h1 h2) _ _ _ ha fun f hf' => by
            obtain ⟨j, hj, hjf⟩ := List.getElem_of_mem hf'
            have hj' : j < fs.size := by simpa using hj
            have h1 := hf j f (by rw [Array.getElem?_eq_getElem hj']; simpa using hjf)
            rw [List.getElem?_eq_getElem (by omega)] at h1
            exact ⟨m', _, h1⟩
          rw [List.drop_zero, List.take_of_length_le (by omega)] at this
          exact this
        · cases h
      · cases h
    · rename_i k e hu
      obtain ⟨xs, m', hm', hx', hlen, hl, hf⟩ := DataW.trod_array hu hx
      split at h
      · rename_i a ha
        split at h
        · rename_i hc
          injection h with h
          subst h
          obtain ⟨c1, c2⟩ := hc
          have := flat_array (cs := cs) (a := a) k 0 fun i hi => by
            have h1 := hf i hi
            rw [List.getElem?_eq_getElem (by omega), c2] at h1
            rw [Nat.zero_add]
            exact flat_oks n e _ _ _ m' ha h1
          rw [Nat.zero_mul, List.drop_zero, List.take_of_length_le (by omega)] at this
          exact this
        · cases h
      · cases h
    · cases h
end

/-- The value reads as m structs of kinds ks; the cells of element i are row i. -/
structure FlatArg (w : World) (v : Value) (ks : List Lk) (m : Nat) (row : Nat → List Value) : Prop where
  val : ∃ a c, v = .slice a m c
  cell : ∀ i, i < m → ∃ b off c, v = .slice (some ⟨b, off, none⟩) m c ∧ b < w.heap.size ∧ m ≤ c ∧ ∀ i, i < m → ∀ j, j < ks.length → w.cell? ⟨b, off + (i * ks.length + j), none⟩ = (row i)[j]?
  ok : ∀ i, i < m → Oks ks (row i)
  len : m ≤ maxLen
set_option maxRecDepth 100000 in
theorem flat_arg {H : Type} {enc : TypeId × Value → H} {W : World} {v : Value} {d : DataW H} {ps : List MemPlace} {r : Reach} {b0 : Nat} {t e : TypeId} {ks : List Lk} {n : Nat} (ht : Try.prog.underlying t = some (.slice e)) (hk : flat Try.prog n e = some ks) (hl : Try.prog.cellsOf e = ks.length) (h0 : 0 < ks.length)
    (hv : Value.okWide Try.prog W r b0 t v) (h : DataW.Trod enc Try.prog W 0 (fun _ => true) true t v d ps) : ∃ m row, FlatArg W v ks m row := by
  obtain ⟨a0, len, cap, rfl⟩ := okWide_slice ht hv
  obtain ⟨fuel, hf⟩ := h
  rcases Deep.open_slice ht hf with ⟨hcs, _⟩ | ⟨a, len', cap', m', n', D, Pl, hcs, _, hl', hm, hmm, _, hcell⟩
  · simp [Value.cells] at hcs
    obtain ⟨rfl, rfl, rfl⟩ := hcs
    exact ⟨0, fun _ => [], ⟨_, _, rfl⟩, fun i hi => absurd hi (Nat.not_lt_zero _), fun i hi => absurd hi (Nat.not_lt_zero _), Nat.zero_le _⟩
  · simp [Value.cells] at hcs
    obtain ⟨rfl, rfl, rfl⟩ := hcs
    simp only [if_true] at hmm
    have hc : ∀ i, ∃ cs', i < len → W.cells? 0 (a.add (i * Try.prog.cellsOf e)) (Try.prog.cellsOf e) = some cs' ∧ Oks ks cs' := by
      intro i
      by_cases hi : i < len
      · obtain ⟨cs', h1, h2⟩ := hcell i (by omega)
        exact ⟨cs', fun _ => ⟨h1, flat_oks _ _ _ _ _ _ hk h2⟩⟩
      · exact ⟨[], fun h => absurd h hi⟩
    obtain ⟨row, hrow⟩ := Classical.axiomOfChoice hc
    refine ⟨len, row, ⟨some a, cap, rfl⟩, fun i hi => ?_, fun i hi => (hrow i hi).2, by omega⟩
    obtain ⟨h1, h2⟩ := hrow 0 (by omega)
    obtain ⟨_, hl1, hat⟩ := World.cells?_some h1
    have h00 := hat 0 (by omega)
    have hs : a.spot = none ∧ a.block < W.heap.size := by
      rw [List.getElem?_eq_getElem (by rw [hl1]; omega)] at h00
      have e1 := World.cell?_spot h00
      have e2 := block_lt_of_cell h00
      exact ⟨by simpa [Addr.add] using e1, by simpa [Addr.add] using e2⟩
    obtain ⟨b, off, spot⟩ := a
    obtain ⟨hs1, hs2⟩ := hs
    dsimp only at hs1 hs2
    subst hs1
    refine ⟨b, off, cap, rfl, hs2, hl', fun i hi j hj => ?_⟩
    obtain ⟨h1, h2⟩ := hrow i hi
    obtain ⟨_, hl1, hat⟩ := World.cells?_some h1
    have := hat j (by omega)
    rw [hl] at this
    rw [← this, Go.Deep.add_add, Addr.add_lit]
theorem Oks.get {ks : List Lk} {vs : List Value} (h : Oks ks vs) : ∀ {j : Nat} {k : Lk}, ks[j]? = some k → ∃ v, vs[j]? = some v ∧ k.ok v := by
  induction h with
  | nil => intro j k hk; simp at hk
  | cons hk _ ih =>
    intro j k hj
    cases j with
    | zero => simp at hj; subst hj; exact ⟨_, rfl, hk⟩
    | succ j => exact ih (by simpa using hj)
end Go.Proofs.Ytcdmebjggdhhdaa
