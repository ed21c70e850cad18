/- A map from numbers to pins that the program itself makes. -/
import Derived.Test.YtjndhjmbdhfclaaMem
import Derived.Maps.OwnOps
import Derived.Maps.Views
import Derived.Maps.OwnSet
namespace Go.Proofs.Ytjndhjmbdhfclaa
set_option maxRecDepth 100000
open Go.RowKit Go.Maps

theorem pkeyed_int : Keyed Try.prog 3 := int_keyed Try.underlying3
theorem zero_pin (w : World) : (zeroValue 87).run Try.prog w = .ok (.agg #[.int .i64 0, .int .i64 0]) w := by kernel_rfl
/-- How a pin reads. -/
def pinCells : List Value → Option (DataW Unit × List MemPlace)
  | [.int .i64 a, .int .i64 b] => some (.agg [.lit (.int .i64 a), .lit (.int .i64 b)], [])
  | _ => none
def pinElem : Value → Option (DataW Unit × List MemPlace)
  | .agg cs => pinCells cs.toList
  | _ => none
theorem pinElem_inv {v : Value} {a b : Int} {ps : List MemPlace} (h : pinElem v = some (.agg [.lit (.int .i64 a), .lit (.int .i64 b)], ps)) : v = .agg #[.int .i64 a, .int .i64 b] := by
  unfold pinElem at h
  split at h
  · rename_i cs
    unfold pinCells at h
    split at h
    · rename_i x y he
      injection h with h
      injection h with h
      injection h with h
      injection h with h1 h
      injection h with h2 h
      injection h1 with h1
      injection h2 with h2
      injection h1 with _ h1
      injection h2 with _ h2
      subst h1 h2
      have : cs = #[.int .i64 x, .int .i64 y] := by rw [← Array.toArray_toList (xs := cs), he]
      rw [this]
    · cases h
  · cases h
def pinD (x : Int × Int) : DataW Unit := .agg [.lit (.int .i64 x.1), .lit (.int .i64 x.2)]
/-- What is told of a key. -/
def plook : List (Int × Int × Int) → Int → Int × Int
  | [], _ => (0, 0)
  | e :: r, k => if e.1 = k then e.2 else plook r k
def phas (es : List (Int × Int × Int)) (k : Int) : Bool := decide (k ∈ es.map (·.1))
def pcut (es : List (Int × Int × Int)) (k : Int) : List (Int × Int × Int) := es.filter fun e => !decide (e.1 = k)
theorem plook_none : ∀ {es : List (Int × Int × Int)} {k : Int}, ¬ k ∈ es.map (·.1) → plook es k = (0, 0)
  | [], _, _ => rfl
  | e :: r, k, h => by
    simp only [List.map_cons, List.mem_cons, not_or] at h
    unfold plook
    rw [if_neg (fun g => h.1 g.symm)]
    exact plook_none h.2
theorem plook_snoc : ∀ (es : List (Int × Int × Int)) (x : Int × Int × Int) (k : Int), ¬ x.1 ∈ es.map (·.1) → plook (es ++ [x]) k = if k = x.1 then x.2 else plook es k
  | [], x, k, _ => by
    show plook [x] k = _
    unfold plook
    by_cases e : k = x.1
    · rw [if_pos e, if_pos e.symm]
    · rw [if_neg e, if_neg fun h => e h.symm]; rfl
  | e :: r, x, k, h => by
    simp only [List.map_cons, List.mem_cons, not_or] at h
    show plook (e :: (r ++ [x])) k = _
    unfold plook
    by_cases g : e.1 = k
    · rw [if_pos g, if_neg (fun g2 => h.1 (by omega)), if_pos g]
    · rw [if_neg g, plook_snoc r x k h.2, if_neg g]
theorem plook_cut : ∀ (es : List (Int × Int × Int)) (x k : Int), k ≠ x → plook (pcut es x) k = plook es k
  | [], _, _, _ => rfl
  | e :: r, x, k, h => by
    unfold pcut
    by_cases g : e.1 = x
    · rw [List.filter_cons_of_neg (by simp [g])]
      show plook (pcut r x) k = plook (e :: r) k
      rw [plook_cut r x k h]
      show _ = if e.1 = k then e.2 else plook r k
      rw [if_neg (by omega)]
    · rw [List.filter_cons_of_pos (by simp [g])]
      show (if e.1 = k then e.2 else plook (pcut r x) k) = if e.1 = k then e.2 else plook r k
      rw [plook_cut r x k h]
theorem mem_cut {es : List (Int × Int × Int)} {x k : Int} : k ∈ (pcut es x).map (·.1) ↔ k ∈ es.map (·.1) ∧ k ≠ x := by
  unfold pcut
  simp only [List.mem_map, List.mem_filter]
  constructor
  · rintro ⟨e, ⟨h1, h2⟩, rfl⟩
    exact ⟨⟨e, h1, rfl⟩, by simpa using h2⟩
  · rintro ⟨⟨e, h1, rfl⟩, h2⟩
    exact ⟨e, ⟨h1, by simpa using h2⟩, rfl⟩
theorem length_cut : ∀ {es : List (Int × Int × Int)} {x : Int}, (es.map (·.1)).Nodup → x ∈ es.map (·.1) → (pcut es x).length + 1 = es.length
  | [], _, _, h => by cases h
  | e :: r, x, hn, h => by
    simp only [List.map_cons, List.nodup_cons] at hn
    unfold pcut
    by_cases g : e.1 = x
    · rw [List.filter_cons_of_neg (by simp [g])]
      have : r.filter (fun e => !decide (e.1 = x)) = r := List.filter_eq_self.2 fun y hy => by
        have : y.1 ≠ x := fun e2 => hn.1 (by rw [g, ← e2]; exact List.mem_map.2 ⟨y, hy, rfl⟩)
        simpa using this
      rw [this]; rfl
    · rw [List.filter_cons_of_pos (by simp [g])]
      have h' : x ∈ r.map (·.1) := by
        simp only [List.map_cons, List.mem_cons] at h
        exact h.resolve_left fun e2 => g e2.symm
      have := length_cut hn.2 h'
      unfold pcut at this
      simp only [List.length_cons]
      omega
theorem nodup_cut {es : List (Int × Int × Int)} {x : Int} (h : (es.map (·.1)).Nodup) : ((pcut es x).map (·.1)).Nodup := h.sublist (List.filter_sublist.map _)
theorem cut_none {es : List (Int × Int × Int)} {x : Int} (h : ¬ x ∈ es.map (·.1)) : pcut es x = es := List.filter_eq_self.2 fun y hy => by
  have : y.1 ≠ x := fun e2 => h (List.mem_map.2 ⟨y, hy, e2⟩)
  simpa using this

theorem owns_tight {H : Type} {w : World} {P : Program} {k : TypeId} {R : Value → Option (DataW H × List MemPlace)} {b n : Nat} {D : DataW H} (h : w.ownsMap P k R b n D) : w.ownsMap P k R b (size D) D := by
  obtain ⟨es, clock, h1, F, hs, rfl⟩ := h
  exact ⟨es, clock, h1, F, by simp [size, length_sorted], rfl⟩

/-- Block b is a map that holds es: a key, and what is kept under it. -/
def PMap (w : World) (b : Nat) (es : List (Int × Int × Int)) : Prop :=
  ∃ D : DataW Unit, w.ownsMap Try.prog 3 pinElem b es.length D ∧ (∀ k, (Lit.int .i64 k).wf = true → D.atKey (.int .i64 k) (pinD (0, 0)) = pinD (plook es k)) ∧ (∀ k, (Lit.int .i64 k).wf = true → has D (.int .i64 k) = phas es k) ∧ size D = es.length ∧ (es.map (·.1)).Nodup
theorem PMap.new (w : World) : PMap (w.alloc (.map #[] 0)) w.heap.size [] := ⟨.map [], World.ownsMap_made _ _ _ _, fun _ _ => rfl, fun _ _ => rfl, rfl, List.nodup_nil⟩
section
variable {w w' : World} {b : Nat} {es : List (Int × Int × Int)}
theorem PMap.lt (h : PMap w b es) : b < w.heap.size := by
  obtain ⟨D, h, _⟩ := h
  exact h.lt
theorem PMap.nodup (h : PMap w b es) : (es.map (·.1)).Nodup := by
  obtain ⟨D, _, _, _, _, h⟩ := h
  exact h
theorem PMap.same (h : PMap w b es) (hb : w'.heap[b]? = w.heap[b]?) : PMap w' b es := by
  obtain ⟨D, ⟨es, clock, h1, h2⟩, h3⟩ := h
  exact ⟨D, ⟨es, clock, hb.trans h1, h2⟩, h3⟩
theorem PMap.look (h : PMap w b es) {k : Int} (hk : (Lit.int .i64 k).wf = true) :
    (Instr.lookup 81 (.map (some b)) (.int .i64 k) true).run Try.prog w = .ok (.tuple #[.agg #[.int .i64 (plook es k).1, .int .i64 (plook es k).2], .bool (phas es k)]) w := by
  obtain ⟨D, h, hat, hh, _⟩ := h
  obtain ⟨v, ps, hrun, hv⟩ := h.look_ok pkeyed_int Try.underlying81 (zero_pin w) (zd := pinD (0, 0)) (zp := []) rfl (keyOf_int_mk Try.underlying3 hk)
  rw [hat k hk] at hv
  rw [hrun, hh k hk, pinElem_inv hv]
theorem PMap.len (h : PMap w b es) (ty : TypeId) : (Builtin.len_ #[81] ty #[.map (some b)]).run Try.prog w = .ok (.int .i64 es.length) w := by
  obtain ⟨D, h, _, _, hs, _⟩ := h
  rw [← hs]
  exact h.len Try.underlying81 ty
theorem PMap.put (h : PMap w b es) (hn : es.length ≤ 1000000) {k x y : Int} (hk : (Lit.int .i64 k).wf = true) (hnew : ¬ k ∈ es.map (·.1)) :
    ∃ w', (Instr.mapUpdate 81 (.map (some b)) (.int .i64 k) (.agg #[.int .i64 x, .int .i64 y])).run Try.prog w = .ok () w' ∧ PMap w' b (es ++ [(k, x, y)]) ∧ w.grownBy w' (some b) := by
  obtain ⟨D, hD, hat, hhas, hsz, hnd⟩ := h
  obtain ⟨w', hrun, r1, r2⟩ := hD.store pkeyed_int Try.underlying81 (val := .agg #[.int .i64 x, .int .i64 y]) (d := pinD (x, y)) (ps := []) (by unfold maxLen; omega) (keyOf_int_mk Try.underlying3 hk) rfl
  refine ⟨w', hrun, ⟨_, by rw [List.length_append]; exact r1, fun j hj => ?_, fun j hj => ?_, ?_, ?_⟩, r2.grown⟩
  · rw [plook_snoc es _ j hnew]
    by_cases e : j = k
    · subst e
      rw [atKey_put_same hD.isMap (by trivial), if_pos rfl]
    · rw [atKey_put_other (by intro e'; injection e' with _ e'; exact e e'), hat j hj, if_neg e]
  · by_cases e : j = k
    · subst e
      rw [has_put_same hD.isMap (by trivial)]
      simp [phas]
    · rw [has_put_other (by intro e'; injection e' with _ e'; exact e e'), hhas j hj]
      simp [phas, e]
  · rw [size_put (hD.tidy pkeyed_int), hhas k hk, hsz]
    simp [phas, hnew]
  · rw [List.map_append, List.nodup_append]
    refine ⟨hnd, by simp, fun a ha c hc => ?_⟩
    have : c = k := by simpa using hc
    subst this
    rintro rfl
    exact hnew ha
theorem PMap.del (h : PMap w b es) {k : Int} (hk : (Lit.int .i64 k).wf = true) (ty : TypeId) :
    ∃ w', (Builtin.delete_ #[81, 3] ty #[.map (some b), .int .i64 k]).run Try.prog w = .ok (.tuple #[]) w' ∧ PMap w' b (pcut es k) ∧ w.grownBy w' (some b) := by
  obtain ⟨D, hD, hat, hhas, hsz, hnd⟩ := h
  obtain ⟨w', hrun, r1, r2⟩ := hD.drop pkeyed_int Try.underlying81 (keyOf_int_mk Try.underlying3 hk) ty
  have hs : size (D.del (.int .i64 k)) = (pcut es k).length := by
    have e1 := size_del (k := .int .i64 k) (hD.tidy pkeyed_int)
    rw [hhas k hk, hsz] at e1
    by_cases g : k ∈ es.map (·.1)
    · have := length_cut hnd g
      simp [phas, g] at e1
      omega
    · rw [cut_none g]
      simp [phas, g] at e1
      exact e1
  refine ⟨w', hrun, ⟨_, by rw [← hs]; exact owns_tight r1, fun j hj => ?_, fun j hj => ?_, hs, nodup_cut hnd⟩, r2.grown⟩
  · by_cases e : j = k
    · subst e
      rw [atKey_del_same, plook_none fun h => (mem_cut.1 h).2 rfl]
    · rw [atKey_del_other (by intro e'; injection e' with _ e'; exact e e'), hat j hj, plook_cut es k j e]
  · by_cases e : j = k
    · subst e
      rw [has_del_same]
      exact (decide_eq_false fun h => (mem_cut.1 h).2 rfl).symm
    · rw [has_del_other (by intro e'; injection e' with _ e'; exact e e'), hhas j hj]
      unfold phas
      by_cases g : j ∈ es.map (·.1)
      · rw [decide_eq_true g, decide_eq_true (mem_cut.2 ⟨g, e⟩)]
      · rw [decide_eq_false g, decide_eq_false fun h => g (mem_cut.1 h).1]
end
end Go.Proofs.Ytjndhjmbdhfclaa
