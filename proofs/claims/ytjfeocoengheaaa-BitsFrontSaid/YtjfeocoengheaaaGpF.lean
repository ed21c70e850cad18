/- A list of bits that the caller itself grows. -/
import Derived.Test.YtjfeocoengheaaaGpA
import Derived.Test.YtjfeocoengheaaaLaw
import Derived.Deep.Grids
import Derived.Test.YtjfeocoengheaaaGpE
namespace Go.Proofs.Ytjfeocoengheaaa
set_option maxRecDepth 100000
open Go.RowKit

/-- The slice v holds the bits xs; its row is one of K, from block B on. -/
def Bls (w : World) (B : Nat) (K : Nat → Prop) (v : Value) (xs : List Bool) : Prop := w.ownsRow B 4 1 v xs.length (xs.map (Value.bool)) ∧ ∀ g, v.ownBlock = some g → K g

section
variable {w w' : World} {B : Nat} {K K' : Nat → Prop} {v : Value} {xs : List Bool}
theorem Bls.nil (w : World) (B : Nat) (K : Nat → Prop) : Bls w B K (.slice none 0 0) [] := ⟨⟨rfl, .inl ⟨rfl, rfl⟩⟩, fun g h => by cases h⟩
theorem Bls.kept (h : Bls w B K v xs) (hk : Kept K w w') : Bls w' B K v xs := by
  obtain ⟨⟨h1, h2⟩, h3⟩ := h
  refine ⟨⟨h1, ?_⟩, h3⟩
  rcases h2 with h2 | ⟨g, cap, cur, rfl, hg, hh, r⟩
  · exact .inl h2
  · exact .inr ⟨g, cap, cur, rfl, hg, (hk.block g (lt_heap hh) (h3 g rfl)).trans hh, r⟩
theorem Bls.mono (h : Bls w B K v xs) (hk : ∀ b, b < w.heap.size → K b → K' b) : Bls w B K' v xs := by
  obtain ⟨⟨h1, h2⟩, h3⟩ := h
  refine ⟨⟨h1, h2⟩, fun g e => ?_⟩
  rcases h2 with ⟨rfl, _⟩ | ⟨g', cap, cur, rfl, hg, hh, r⟩
  · cases e
  · cases e
    exact hk _ (lt_heap hh) (h3 _ rfl)
theorem Bls.slice (h : Bls w B K v xs) : ∃ a c, v = .slice a xs.length c := by
  rcases h.1.2 with ⟨rfl, e⟩ | ⟨g, cap, cur, rfl, _⟩
  · exact ⟨none, 0, by rw [e]⟩
  · exact ⟨_, _, rfl⟩
theorem Bls.at_ (h : Bls w B K v xs) {i : Nat} (hi : i < xs.length) : ∃ g c, v = .slice (some ⟨g, 0, none⟩) xs.length c ∧ xs.length ≤ c ∧ K g ∧ ∀ j, j < xs.length → w.cell? ⟨g, j, none⟩ = some (.bool (xs.getD j false)) := by
  obtain ⟨⟨h1, h2⟩, h3⟩ := h
  rcases h2 with ⟨rfl, e⟩ | ⟨g, cap, cur, rfl, hg, hh, hl, hm, hs, ht⟩
  · omega
  · refine ⟨g, cap, rfl, hl, h3 g rfl, fun j hj => ?_⟩
    rw [cell_of_row _ _ _ _ _ _ hh, ← Array.getElem?_toList]
    have e : (cur.toList.take (xs.length * 1))[j]? = (xs.map (Value.bool))[j]? := by rw [ht]
    rw [List.getElem?_take, if_pos (by omega)] at e
    rw [e]
    simp [hj]
end

/-- What an append to the list leaves. -/
structure PushedB (w w' : World) (B : Nat) (K K' : Nat → Prop) (v' : Value) (xs : List Bool) : Prop where
  lst : Bls w' B K' v' xs
  more : ∀ b, K b → K' b
  new : ∀ b, K' b → b < w'.heap.size ∧ (K b ∨ w.heap.size ≤ b)
  size : w.heap.size ≤ w'.heap.size
  same : ∀ b, b < w.heap.size → ¬ K b → w'.heap[b]? = w.heap[b]?
  below : Below B w w'
  ne : ∃ a c, v' = .slice (some a) xs.length c

/-- 'append' of one number to the list. -/
theorem wpList_append_bls {w : World} {B : Nat} {K : Nat → Prop} {v : Value} {xs : List Bool} (hL : Bls w B K v xs) (hlt : ∀ b, K b → b < w.heap.size) (hB : B ≤ w.heap.size) (hlen : xs.length + 1 ≤ 1000000000)
    {ops : Array Oper} {rest : List Oper} {o : Oper} {a : Act} {Q : Exit → Act → World → Prop}
    (hg : o.guard = none) (s x : Operand) (hop : o.op = Op.call { callee := Callee.builtin Builtin.append, args := #[s, x], argTypes := #[22, 22] })
    (hs : a.eval s = v) (ad : Addr) (y : Bool) (c : Nat) (hx : a.eval x = .slice (some ad) 1 c) (hc : w.cell? ad = some (.bool y))
    (h : ∀ v' w' K', PushedB w w' B K K' v' (xs ++ [y]) → wpList Try.prog ops Q rest (a.put o.dst v') w') : wpList Try.prog ops Q (o :: rest) a w := by
  obtain ⟨i0, hi, hz0, hz1, hz2⟩ := info_parts info_bool
  have news : ∀ j u, ([Value.bool y] : List Value)[j]? = some u → w.cell? (ad.add j) = some u := by
    intro j u hj
    match j, hj with
    | 0, hj => simp at hj; subst hj; simpa [Addr.add] using hc
  have one : ∀ u ∈ ([Value.bool y] : List Value), u.oneCell' = true := by intro u hu; simp at hu; subst hu; rfl
  obtain ⟨⟨h1, h2⟩, h3⟩ := hL
  have grow : ∀ v' w', w'.ownsRow w.heap.size 4 1 v' (xs.length + 1) (xs.map (Value.bool) ++ [.bool y]) → w.grownBy w' none → wpList Try.prog ops Q rest (a.put o.dst v') w' := by
    intro v' w' ho hgr
    obtain ⟨g, cap, cur, rfl, hgg, hh, r1, r2, r3, r4⟩ : ∃ g cap cur, v' = .slice (some ⟨g, 0, none⟩) (xs.length + 1) cap ∧ w.heap.size ≤ g ∧ w'.heap[g]? = some (.cells cur 4 (0, 0)) ∧ xs.length + 1 ≤ cap ∧ cap ≤ maxLen ∧ cur.size = cap * 1 ∧ cur.toList.take ((xs.length + 1) * 1) = xs.map (Value.bool) ++ [.bool y] := by
      rcases ho.2 with ⟨_, h⟩ | h
      · omega
      · exact h
    refine h _ w' (fun b => K b ∨ b = g) ⟨⟨⟨by simp, .inr ⟨g, cap, cur, by simp, by omega, hh, by simpa using r1, r2, r3, by simpa using r4⟩⟩, fun g' e => by cases e; exact .inr rfl⟩, fun b hb => .inl hb, fun b hb => ?_, hgr.size, fun b hb _ => hgr.block b hb (by simp), ?_, ⟨g, 0, none⟩, cap, by simp⟩
    · rcases hb with hb | rfl
      · exact ⟨Nat.lt_of_lt_of_le (hlt b hb) hgr.size, .inl hb⟩
      · exact ⟨lt_heap hh, .inr hgg⟩
    · exact (Below.refl _ _).grown hgr hB (fun k e => by cases e)
  rcases h2 with ⟨rfl, e⟩ | ⟨g, cap, cur, rfl, hgg, hh, hl, hm, hcs, ht⟩
  · have e0 : xs = [] := List.length_eq_zero_iff.1 e
    subst e0
    exact wpList_append_grows w hg s x 22 hop 4 i0 (.bool false) 1 1 Try.underlying22 hi hz0 hz1 hz2 rfl (by decide) none 0 0 [] hs (fun _ => ⟨rfl, rfl⟩) rfl (fun b hb => by cases hb) ad 1 c [.bool y] hx rfl news one
      (by omega) (by unfold maxLen; omega) (by omega) grow
  · have old : ∀ j u, (xs.map (Value.bool))[j]? = some u → w.cell? ⟨g, 0 + j, none⟩ = some u := by
      intro j u hj
      have hj' : j < xs.length := by have := (List.getElem?_eq_some_iff.1 hj).1; simpa using this
      rw [cell_of_row _ _ _ _ _ _ hh, ← hj, ← ht, List.getElem?_take, if_pos (by omega), Array.getElem?_toList, Nat.zero_add]
    refine wpList_append_arg w hg s x 22 hop 4 i0 (.bool false) 1 1 Try.underlying22 hi hz0 hz1 hz2 rfl (by decide) g 0 xs.length cap (xs.map (Value.bool)) hs (by simp) old ad 1 c [.bool y] hx rfl news one
      (fun hr j hj => ?_) (by unfold maxLen; omega) (by omega) (fun hr => ?_) (fun _ v' w' ho hgr => grow v' w' ho hgr)
    · obtain rfl : j = 0 := by simp at hj; omega
      rw [cell_of_row _ _ _ _ _ _ hh]
      refine ⟨by simp; omega, frozen_of_row _ _ _ _ _ hh⟩
    · have e1 : w.setCells g (0 + xs.length * 1) [.bool y] = w.setCell ⟨g, xs.length, none⟩ (.bool y) := by
        simp [World.setCells]
      rw [e1]
      have hh' := heap_setCell_same w g xs.length cur 4 (.bool y) hh
      refine h _ _ K ⟨⟨⟨by simp, .inr ⟨g, cap, _, by simp, hgg, hh', by simpa using hr, hm, by simpa using hcs, ?_⟩⟩, fun g' e => by cases e; exact h3 _ rfl⟩, fun b hb => hb, fun b hb => ⟨by simpa using hlt b hb, .inl hb⟩, by simp, fun b _ hn => Below.heap_setCell _ _ _ _ (by rintro rfl; exact hn (h3 _ rfl)), (Below.refl _ _).setCell hgg _, ⟨g, 0, none⟩, cap, by simp⟩
      have ht' : cur.toList.take xs.length = xs.map (Value.bool) := by simpa using ht
      have hlt' : xs.length < cur.toList.length := by simp; omega
      rw [Array.toList_setIfInBounds]
      simp only [List.length_append, List.length_singleton, Nat.mul_one, List.map_append, List.map_cons, List.map_nil]
      rw [List.take_add_one, List.take_set, ht', List.getElem?_set, if_pos rfl, if_pos hlt', List.set_eq_of_length_le (by simp)]
      rfl
/-- The value reads as the bits xs. -/
def Bools (w : World) (v : Value) (xs : List Bool) : Prop := ((∃ a c, v = .slice a 0 c) ∧ xs = []) ∨ ∃ b off c, v = .slice (some ⟨b, off, none⟩) xs.length c ∧ b < w.heap.size ∧ xs.length ≤ c ∧ ∀ j, j < xs.length → w.cell? ⟨b, off + j, none⟩ = some (.bool (xs.getD j false))
section
variable {w w' : World} {B : Nat} {K K' : Nat → Prop} {v : Value} {xs : List Bool}
theorem Bools.slice (h : Bools w v xs) : ∃ a c, v = .slice a xs.length c := by
  rcases h with ⟨⟨a, c, rfl⟩, rfl⟩ | ⟨b, off, c, rfl, _⟩
  · exact ⟨_, _, rfl⟩
  · exact ⟨_, _, rfl⟩
theorem Bools.below (h : Bools w v xs) (hb : Below w.heap.size w w') : Bools w' v xs := by
  rcases h with h | ⟨b, off, c, e, h1, h2, h3⟩
  · exact .inl h
  · exact .inr ⟨b, off, c, e, Nat.lt_of_lt_of_le h1 hb.size, h2, fun j hj => (hb.cell (p := ⟨b, off + j, none⟩) h1).trans (h3 j hj)⟩
theorem Bls.bools (h : Bls w B K v xs) : Bools w v xs := by
  obtain ⟨⟨h1, h2⟩, h3⟩ := h
  rcases h2 with ⟨rfl, e⟩ | ⟨g, cap, cur, rfl, hg, hh, hl, hm, hs, ht⟩
  · exact .inl ⟨⟨_, _, rfl⟩, List.length_eq_zero_iff.1 e⟩
  · refine .inr ⟨g, 0, cap, rfl, lt_heap hh, hl, fun j hj => ?_⟩
    rw [Nat.zero_add, cell_of_row _ _ _ _ _ _ hh, ← Array.getElem?_toList]
    have e : (cur.toList.take (xs.length * 1))[j]? = (xs.map (Value.bool))[j]? := by rw [ht]
    rw [List.getElem?_take, if_pos (by omega)] at e
    rw [e]
    simp [hj]
end
end Go.Proofs.Ytjfeocoengheaaa
namespace Go.Proofs.Ytjfeocoengheaaa
set_option maxRecDepth 100000
open Go.ChangeShapes Go.WideShapes Go.ChangeAt Go.RowKit

/-- The value reads as the bits xs. -/
structure BoolsArg (w : World) (v : Value) (xs : List Bool) : Prop where
  val : ∃ a c, v = .slice a xs.length c
  cell : ∀ i, i < xs.length → ∃ b off c, v = .slice (some ⟨b, off, none⟩) xs.length c ∧ b < w.heap.size ∧ xs.length ≤ c ∧ c ≤ maxLen ∧ ∀ j, j < xs.length → w.cell? ⟨b, off + j, none⟩ = some (.bool (xs.getD j false))
  len : xs.length ≤ maxLen

theorem bools_arg {H : Type} {enc : TypeId × Value → H} {W : World} {v : Value} {d : DataW H} {ps : List MemPlace} {r : Reach} {b0 : Nat} (hv : Value.okWide Try.prog W r b0 22 v)
    (h : DataW.Trod enc Try.prog W 0 (fun _ => true) true 22 v d ps) : ∃ xs, BoolsArg W v xs := by
  obtain ⟨a0, len, cap, rfl⟩ := okWide_slice Try.underlying22 hv
  obtain ⟨fuel, hf⟩ := h
  rcases Go.Deep.open_bools Try.underlying22 Try.underlying4 (by kernel_rfl) hf with ⟨hcs, _⟩ | ⟨a, len', cap', B, hcs, _, hl, hm, _, hcell⟩
  · simp [Value.cells] at hcs
    obtain ⟨rfl, rfl, rfl⟩ := hcs
    exact ⟨[], ⟨_, _, rfl⟩, fun i hi => absurd hi (Nat.not_lt_zero _), Nat.zero_le _⟩
  · simp [Value.cells] at hcs
    obtain ⟨rfl, rfl, rfl⟩ := hcs
    have hlen : ((List.range len).map B).length = len := by simp
    refine ⟨(List.range len).map B, ⟨some a, cap, by rw [hlen]⟩, fun i hi => ?_, by rw [hlen]; omega⟩
    rw [hlen] at hi ⊢
    have h0 := hcell 0 (by omega)
    have hs : a.spot = none := by
      have := World.cell?_spot h0
      simpa [Addr.add] using this
    obtain ⟨b, off, spot⟩ := a
    dsimp only at hs
    subst hs
    refine ⟨b, off, cap, rfl, ?_, hl, hm, fun j hj => ?_⟩
    · have := block_lt_of_cell h0
      simpa [Addr.add] using this
    · have := hcell j (by omega)
      rw [Addr.add_lit] at this
      rw [this]
      simp [List.getD, hj]
end Go.Proofs.Ytjfeocoengheaaa
namespace Go.Proofs.Ytjfeocoengheaaa
set_option maxRecDepth 100000
open Go.RowKit
theorem BT.Full.high16 : ∀ {t : BT}, t.Full → 16 * t.high ≤ t.len
  | .leaf l, h => by
    have := h.len
    show 16 * 1 ≤ _
    omega
  | .fork a b, h => by
    obtain ⟨ha, hb, _⟩ := h
    have h1 := BT.Full.high16 ha
    have h2 := BT.Full.high16 hb
    have h3 := ha.len
    have h4 := hb.len
    show 16 * (1 + max a.high b.high) ≤ a.len + b.len
    omega
  | .nil, h => by cases h
theorem BT.Fine.high16 {t : BT} (h : t.Fine) : t.high ≤ t.len / 16 + 1 := by
  rcases h with rfl | ⟨l, rfl, _, _⟩ | h
  · exact Nat.zero_le _
  · show 1 ≤ _
    omega
  · have := h.high16
    omega
/-- The handle h, which one of L has (or which is none), stands for the bits xs. -/
def Row (s : Ar) (L : List Int) (h : Int) (xs : List Bool) : Prop := ∃ t : BT, BRep s h t ∧ (h = 0 ∨ h ∈ L) ∧ t.Fine ∧ t.list = xs ∧ t.len ≤ 5000
section
variable {w w' : World} {K : Nat → Prop} {p : Nat} {s s' : Ar} {L L' : List Int} {h : Int} {xs : List Bool}
theorem Row.ext (r : Row s L h xs) (E : Ext s s') (hL : ∀ x, x ∈ L → x ∈ L') : Row s' L' h xs := by
  obtain ⟨t, a, b, c⟩ := r
  exact ⟨t, a.ext E, b.imp id (hL h), c⟩
theorem Row.zero (s : Ar) (L : List Int) : Row s L 0 [] := ⟨.nil, rfl, .inl rfl, .inl rfl, rfl, Nat.zero_le _⟩
theorem Row.range (r : Row s L h xs) : 0 ≤ h ∧ h ≤ s.n := by
  obtain ⟨t, a, _⟩ := r
  exact a.range
theorem Row.nil_iff (r : Row s L h xs) : h = 0 ↔ xs = [] := by
  obtain ⟨t, a, b, c, rfl, e⟩ := r
  constructor
  · rintro rfl
    cases t with
    | nil => rfl
    | leaf l => exact absurd a.1 (by decide)
    | fork x y => exact absurd a.1 (by decide)
  · intro e
    have h0 : t.len = 0 := by rw [← t.len_list, e]; rfl
    have := BT.isNil_eq (c.nil_iff.2 h0)
    subst this
    exact a
theorem firm_zero (hf : h = 0 ∨ h ∈ L) : BFirm s (0 :: L) h := .inl (by rcases hf with rfl | h; exact List.mem_cons_self; exact List.mem_cons_of_mem _ h)
theorem blen_row (g : Gd s L) (sn : Snd s) (r : Row s L h xs) (ha : Ars w K p s) :
    Calls Try.prog 13 #[.pointer (some ⟨p, 0, none⟩), .int .i64 h] w fun r w' => r = .returned (.int .i64 xs.length) ∧ Below w.heap.size w w' := by
  obtain ⟨t, a, b, c, rfl, e⟩ := r
  obtain ⟨v, hv, vl, _, _⟩ := vw_any a g.zero (firm_zero b) (by omega)
  refine (blen_is hv ha sn.fit).mono ?_
  rintro e w' ⟨rfl, _, hb⟩
  rw [vl, t.len_list]
  exact ⟨rfl, hb⟩
theorem bget_row {i : Nat} (g : Gd s L) (sn : Snd s) (r : Row s L h xs) (ha : Ars w K p s) (hi : i < xs.length) :
    Calls Try.prog 15 #[.pointer (some ⟨p, 0, none⟩), .int .i64 h, .int .i64 i] w fun e w' => e = .returned (.tuple #[.bool (xs.getD i false), .bool true]) ∧ Below w.heap.size w w' := by
  obtain ⟨t, a, b, c, rfl, e⟩ := r
  have hi' : i < t.len := by rw [← t.len_list]; exact hi
  have hn : t.isNil = false := by
    cases ht : t.isNil
    · rfl
    · have := c.nil_iff.1 ht
      omega
  refine (bget_is g.zero sn ⟨ha, Below.refl _ _, a, firm_zero b, c.solid hn, by omega, Nat.le_refl _⟩ hi').mono ?_
  rintro e w' ⟨rfl, _, hb⟩
  exact ⟨rfl, hb⟩
theorem bget_out {i : Int} (g : Gd s L) (sn : Snd s) (r : Row s L h xs) (ha : Ars w K p s) (hi : i < 0 ∨ (xs.length : Int) ≤ i) :
    Calls Try.prog 15 #[.pointer (some ⟨p, 0, none⟩), .int .i64 h, .int .i64 i] w fun e w' => e = .returned (.tuple #[.bool false, .bool false]) ∧ Below w.heap.size w w' := by
  obtain ⟨t, a, b, c, rfl, e⟩ := r
  rw [t.len_list] at hi
  refine (bget_no g.zero sn a (firm_zero b) (by omega) ha hi).mono ?_
  rintro e w' ⟨rfl, _, hb⟩
  exact ⟨rfl, hb⟩
theorem brank_row {i : Nat} (g : Gd s L) (sn : Snd s) (r : Row s L h xs) (ha : Ars w K p s) (hi : i ≤ xs.length) :
    Calls Try.prog 16 #[.pointer (some ⟨p, 0, none⟩), .int .i64 h, .int .i64 i] w fun e w' => e = .returned (.int .i64 ((xs.take i).count true : Nat)) ∧ Below w.heap.size w w' := by
  obtain ⟨t, a, b, c, rfl, e⟩ := r
  rw [t.len_list] at hi
  by_cases h0 : i = 0
  · subst h0
    refine (brank_zero g.zero sn a (firm_zero b) (by omega) ha (.inl (by simp))).mono ?_
    rintro e w' ⟨rfl, _, hb⟩
    exact ⟨rfl, hb⟩
  have hn : t.isNil = false := by
    cases ht : t.isNil
    · rfl
    · have := c.nil_iff.1 ht
      omega
  refine (brank_in g.zero sn ⟨ha, Below.refl _ _, a, firm_zero b, c.solid hn, by omega, Nat.le_refl _⟩ hi (by omega)).mono ?_
  rintro e w' ⟨rfl, _, hb⟩
  exact ⟨rfl, hb⟩
theorem bselect_row {i : Nat} {one : Bool} (g : Gd s L) (sn : Snd s) (r : Row s L h xs) (ha : Ars w K p s) (hi : i < xs.count one) :
    Calls Try.prog 14 #[.pointer (some ⟨p, 0, none⟩), .int .i64 h, .bool one, .int .i64 i] w fun e w' => e = .returned (.int .i64 (bsel xs one i)) ∧ Below w.heap.size w w' := by
  obtain ⟨t, a, b, c, rfl, e⟩ := r
  have hn : t.isNil = false := by
    cases ht : t.isNil
    · rfl
    · have h1 := c.nil_iff.1 ht
      have h2 := List.count_le_length (a := one) (l := t.list)
      rw [t.len_list] at h2
      omega
  refine (bselect_in g.zero sn ⟨ha, Below.refl _ _, a, firm_zero b, c.solid hn, by omega, Nat.le_refl _⟩ hi).mono ?_
  rintro e w' ⟨rfl, _, hb⟩
  exact ⟨rfl, hb⟩
theorem bselect_out {i : Int} {one : Bool} (g : Gd s L) (sn : Snd s) (r : Row s L h xs) (ha : Ars w K p s) (hi : i < 0 ∨ (xs.count one : Int) ≤ i) :
    Calls Try.prog 14 #[.pointer (some ⟨p, 0, none⟩), .int .i64 h, .bool one, .int .i64 i] w fun e w' => e = .returned (.int .i64 (-1)) ∧ Below w.heap.size w w' := by
  obtain ⟨t, a, b, c, rfl, e⟩ := r
  refine (bselect_no g.zero sn a (firm_zero b) (by omega) ha hi).mono ?_
  rintro e w' ⟨rfl, _, hb⟩
  exact ⟨rfl, hb⟩
/-- A bit is put in: what comes of it. -/
theorem bInsert_ex {one : Bool} {i : Nat} (g : Gd s L) (r : Row s L h xs) (hi : i ≤ xs.length) (hx : xs.length < 5000) (hL : L.length ≤ 400000) (hm : s.made - s.busy ≤ 1000000000) : ∃ s' e' q, Went s s' (3 * (xs.length / 16 + 1) + 1) ∧ EOk s' e' ∧ Gd s' (q :: L) ∧ (e' ≠ 0 → q = 0) ∧ (e' = 0 → Row s' (q :: L) q (bIns xs i one)) ∧
    ∀ {K : Nat → Prop} {p : Nat} {w : World}, Ars w K p s → Calls Try.prog 17 #[.pointer (some ⟨p, 0, none⟩), .int .i64 h, .int .i64 i, .bool one] w fun o w' => o = .returned (.tuple #[.int .i64 q, .int .i64 e']) ∧ Ars w' K p s' ∧ Kept K w w' := by
  obtain ⟨t, a, b, c, rfl, e⟩ := r
  rw [t.len_list] at hi hx ⊢
  have hh := c.high16
  obtain ⟨s', e', q, hI, R⟩ := ins_ex (one := one) t i s (0 :: L) h g.zero hm (by simp; omega) a (firm_zero b) c hi (by omega) (by omega)
  obtain ⟨v, hv, vl, _, _⟩ := vw_any a g.zero (firm_zero b) (by omega)
  have sn : Snd s := g.snd (by omega) hm
  obtain ⟨f1, f2, f3⟩ := binsert_fine c hi one
  refine ⟨s', e', q, R.went.mono (by omega), R.eok, (R.gd.swap).unzero, R.zero, fun e0 => ⟨binsert t i one, R.hd.1 e0, .inr List.mem_cons_self, f1, f2, ?_⟩, fun ha => bInsert_walk hI R.zero hv (by omega) sn ha⟩
  rw [← BT.len_list, f2, bIns_len (by rw [t.len_list]; exact hi), t.len_list]
  omega
/-- A row is built at once: what comes of it. -/
theorem bBuild_ex {l : List Bool} (g : Gd s L) (hl : 1 ≤ l.length) (hx : l.length ≤ 5000) (hL : L.length ≤ 400000) (hm : s.made - s.busy ≤ 1000000000) : ∃ s' e' q t, Went s s' (2 * ((l.length + 63) / 64) - 1) ∧ EOk s' e' ∧ Gd s' (q :: L) ∧ (e' ≠ 0 → q = 0) ∧ t.list = l ∧ t.Fine ∧ (32 ≤ l.length → t.Full) ∧ Deep ((l.length + 63) / 64) t.high ∧ (e' = 0 → BRep s' q t) ∧
    ∀ {K : Nat → Prop} {p g off cap : Nat} {w : World}, l.length ≤ cap → cap ≤ 9223372036854775807 → K g → (∀ i, i < l.length → w.cell? ⟨g, off + i, none⟩ = some (.bool (l.getD i false))) → Ars w K p s →
      Calls Try.prog 12 #[.pointer (some ⟨p, 0, none⟩), .slice (some ⟨g, off, none⟩) l.length cap] w fun o w' => o = .returned (.tuple #[.int .i64 q, .int .i64 e']) ∧ Ars w' K p s' ∧ Kept K w w' := by
  obtain ⟨k, hk⟩ : ∃ k, (l.length + 63) / 64 = k := ⟨_, rfl⟩
  have k1 : 1 ≤ k := by omega
  obtain ⟨t, s', e', q, a1, a2, a3, a4, a5, a6, R⟩ := build_ex k k l s 0 L (Nat.le_refl _) k1 (by omega) (by omega) (by omega) g (.inl rfl) hm (by omega)
  rw [hk]
  refine ⟨s', e', q, t, R.went, R.eok, R.gd, R.zero, a1, a2, a4, a5, R.hd.1, fun c1 c2 c3 c4 c5 => ?_⟩
  exact bBuild_walk (by rw [hk]; exact a6) R.zero hl (by omega) c1 c2 c3 c4 c5
end
end Go.Proofs.Ytjfeocoengheaaa
namespace Go.Proofs.Ytjfeocoengheaaa
set_option maxRecDepth 100000
open Go.RowKit
section
variable {w w' : World} {K : Nat → Prop} {p : Nat} {s s' : Ar} {L L' : List Int} {h : Int} {xs : List Bool}
set_option maxRecDepth 100000 in
set_option maxHeartbeats 4000000 in
theorem ball_is (g : Gd s L) (sn : Snd s) (r : Row s L h xs) (hx : xs.length ≤ 100000) (ha : Ars w K p s) :
    Calls Try.prog 20 #[.pointer (some ⟨p, 0, none⟩), .int .i64 h] w fun e w' => ∃ v K', e = .returned v ∧ Bls w' w.heap.size K' v xs ∧ (∀ b, K' b → b < w'.heap.size) ∧ Below w.heap.size w w' := by
  obtain ⟨n, hn⟩ : ∃ n, n = xs.length := ⟨_, rfl⟩
  have HN := Lib.hid hn
  have HX := Lib.hid (show n ≤ 100000 by omega)
  have HLen : ∀ W, Ars W K p s → Hid (Calls Try.prog 13 #[.pointer (some ⟨p, 0, none⟩), .int .i64 h] W fun r w' => r = .returned (.int .i64 n) ∧ Below W.heap.size W w') := fun W ha => by rw [hn]; exact Lib.hid (blen_row g sn r ha)
  have HLen := Lib.hid HLen
  have HGet := Lib.hid (fun (W : World) (ha : Ars W K p s) (i : Nat) (hi : i < n) => bget_row (i := i) g sn r ha (by omega))
  have Ha := Lib.hid ha
  clear ha r g sn hx hn
  go_enter Try.func20, Try.ntmps20
  go_wp2_with fail
  refine (HLen.out _ Ha.out).out.mono ?_
  rintro e w1 ⟨rfl, hb⟩
  have Hb := Lib.hid hb
  clear hb HLen
  go_wp2_with fail
  go_loopw [5, 12] (fun v k W => ∃ (j : Nat) (Kl : Nat → Prop), k = .int .i64 (j : Int) ∧ j ≤ n ∧ Bls W w.heap.size Kl v (xs.take j) ∧ (∀ b, Kl b → b < W.heap.size) ∧ Below w.heap.size w W) (fun _ k _ => n - (intOf k).toNat)
  case atStart => exact ⟨0, fun _ => False, rfl, by omega, Bls.nil _ _ _, fun b hb => hb.elim, Hb.out⟩
  case round =>
    obtain ⟨j, Kl, rfl, j1, hl, hlt, hbl⟩ := hrel
    have Hl := Lib.hid hl
    have Hlt := Lib.hid hlt
    have Hbl := Lib.hid hbl
    clear hl hlt hbl Hb
    by_cases hj : j < n
    · obtain ⟨av, cv, hsv⟩ := Hl.out.slice
      have hlen : (xs.take j).length = j := by rw [List.length_take, ← HN.out]; omega
      rw [hlen] at hsv
      subst hsv
      have hjI : (j : Int) < (n : Int) := by omega
      have hjJ : (j : Int) + 1 ≤ 100000 := by have := HX.out; omega
      go_wp2_with fail
      refine (HGet.out _ (Ha.out.below Hbl.out) j hj).mono ?_
      rintro e w5 ⟨rfl, hb5⟩
      have Hb5 := Lib.hid hb5
      clear hb5
      obtain ⟨y, hy⟩ : ∃ y, xs.getD j false = y := ⟨_, rfl⟩
      have HY := Lib.hid hy
      rw [hy]
      clear hy
      have Q1 := Lib.hid ((Hl.out.kept (Kept.of_below Hb5.out Kl)).kept ((Kept.refl Kl w5).alloc (.cells #[.bool y] 4)))
      have Q2 := Lib.hid (show ∀ b, Kl b → b < (w5.alloc (.cells #[.bool y] 4)).heap.size from fun b hb => by have := Hlt.out b hb; have := Hb5.out.size; simp; omega)
      have Q3 := Lib.hid (show w.heap.size ≤ (w5.alloc (.cells #[.bool y] 4)).heap.size from by have := Hbl.out.size; have := Hb5.out.size; simp; omega)
      have Ln := Lib.hid (show (xs.take j).length + 1 ≤ 1000000000 by rw [hlen]; have := HX.out; omega)
      go_wp2_with (at_builtin; refine wpList_append_bls Q1.out Q2.out Q3.out Ln.out rfl (.tmp 22) (.tmp 24) rfl rfl ⟨w5.heap.size, 0, none⟩ y 1 rfl (cell_new rfl rfl) ?_)
      intro v' w7 K2 hp
      have HP := Lib.hid hp
      clear hp
      go_wp2_with fail
      go_roundw
      case rel =>
        have e1 : xs.take j ++ [y] = xs.take (j + 1) := by
          have : j < xs.length := by have := HN.out; omega
          rw [List.take_add_one, ← HY.out]
          simp [List.getD, this]
        have hb := HP.out.lst
        rw [e1] at hb
        refine ⟨j + 1, K2, by go_num, by omega, hb, fun b hb => (HP.out.new b hb).1, ?_⟩
        have h5 : Below w.heap.size w w5 := Hbl.out.trans (Hb5.out.mono Hbl.out.size)
        exact (h5.alloc h5.size _).trans HP.out.below
      case measure => simp [intOf]; omega
    · obtain rfl : n = j := by omega
      have hl := Hl.out
      rw [List.take_of_length_le (by rw [HN.out]; exact Nat.le_refl _)] at hl
      have Hl2 := Lib.hid hl
      clear hl
      go_wp2_with fail
      go_ret
      exact ⟨_, Kl, rfl, Hl2.out, Hlt.out, Hbl.out⟩
set_option maxRecDepth 100000 in
set_option maxHeartbeats 4000000 in
theorem same_bools_is {va vb : Value} {xs : List Bool} (ha : Bools w va xs) (hb : Bools w vb xs) (hl : xs.length ≤ 1000000) :
    Calls Try.prog 19 #[va, vb] w fun e w' => e = .returned (.bool true) ∧ Below w.heap.size w w' := by
  obtain ⟨L, hL⟩ : ∃ L, Hid (xs.length = L) := ⟨_, rfl⟩
  have hl' : L ≤ 1000000 := hL.out ▸ hl
  have Ha := Lib.hid ha
  have Hb := Lib.hid hb
  obtain ⟨aa, ca, rfl⟩ := ha.slice
  obtain ⟨ab, cb, rfl⟩ := hb.slice
  rw [hL.out] at Ha Hb ⊢
  clear ha hb hl
  go_enter Try.func19, Try.ntmps19
  go_wp2_with fail
  go_loopw [5] (fun i W => ∃ t q : Nat, i = .int .i64 t ∧ t ≤ L ∧ W = w.drewN q) (fun i _ => L - (intOf i).toNat)
  case atStart => exact ⟨0, 0, rfl, by omega, rfl⟩
  case round =>
    obtain ⟨t, q, rfl, t1, rfl⟩ := hrel
    by_cases ht : t < L
    · rcases Ha.out with ⟨_, e2⟩ | ⟨b1, o1, c1, e1, h1, h2, h3⟩
      · have := hL.out; rw [e2] at this; simp at this; omega
      · rcases Hb.out with ⟨_, e2⟩ | ⟨b2, o2, c2, f1, g1, g2, g3⟩
        · have := hL.out; rw [e2] at this; simp at this; omega
        · injection e1 with e1 _ e3
          injection f1 with f1 _ f3
          subst e1 e3 f1 f3
          have hca := h3 t (by rw [hL.out]; exact ht)
          have hcb := g3 t (by rw [hL.out]; exact ht)
          rw [hL.out] at h2 g2
          have i0 : (0 : Int) ≤ (t : Int) := by omega
          have i1 : (t : Int) < (L : Int) := by omega
          have cA : ∀ q', (w.drewN q').cell? ⟨b1, o1 + t, none⟩ = some (.bool (xs.getD t false)) := fun _ => hca
          have cB : ∀ q', (w.drewN q').cell? ⟨b2, o2 + t, none⟩ = some (.bool (xs.getD t false)) := fun _ => hcb
          clear h3 g3 h1 g1
          generalize xs.getD t false = y at *
          go_wp2_with fail
          go_quiet (fail)
          clear cA cB
          go_wp2_with fail
          go_roundw
          case rel => exact ⟨t + 1, _, by go_num, by omega, rfl⟩
          case measure => simp [intOf]; omega
    · obtain rfl : t = L := by omega
      go_wp2_with fail
      go_ret
      exact ⟨rfl, ⟨rfl, rfl, rfl, Nat.le_refl _, fun _ _ => rfl⟩⟩
end
end Go.Proofs.Ytjfeocoengheaaa
namespace Go.Proofs.Ytjfeocoengheaaa
set_option maxRecDepth 100000
open Go.RowKit
section
variable {w w' : World} {K : Nat → Prop} {p : Nat} {s s' : Ar} {L L' : List Int} {h : Int} {xs : List Bool}
/-- A bit is put in where there is room. -/
theorem bInsert_yes {one : Bool} {i : Nat} (g : Gd s L) (r : Row s L h xs) (hi : i ≤ xs.length) (hx : xs.length < 5000) (hL : L.length ≤ 400000) (hm : s.made - s.busy ≤ 1000000000) (room : s.busy + (3 * (xs.length / 16 + 1) + 1 : Nat) < s.n) : ∃ s' q, Went s s' (3 * (xs.length / 16 + 1) + 1) ∧ Gd s' (q :: L) ∧ Row s' (q :: L) q (bIns xs i one) ∧
    ∀ {K : Nat → Prop} {p : Nat} {w : World}, Ars w K p s → Calls Try.prog 17 #[.pointer (some ⟨p, 0, none⟩), .int .i64 h, .int .i64 i, .bool one] w fun o w' => o = .returned (.tuple #[.int .i64 q, .int .i64 0]) ∧ Ars w' K p s' ∧ Kept K w w' := by
  obtain ⟨s', e', q, a1, a2, a3, _, a5, a6⟩ := bInsert_ex (one := one) g r hi hx hL hm
  have e0 : e' = 0 := by
    rcases a2 with a2 | ⟨_, a2⟩
    · exact a2
    · obtain ⟨k, hk, _, hb⟩ := a1.made
      have := a1.ext.n
      omega
  subst e0
  exact ⟨s', q, a1, a3, a5 rfl, a6⟩
theorem bools_new {l : List Bool} : Bools (w.alloc (.cells (l.map Value.bool).toArray 4)) (.slice (some ⟨w.heap.size, 0, none⟩) l.length l.length) l :=
  .inr ⟨_, 0, _, rfl, by simp, Nat.le_refl _, fun j hj => cell_new (by simp) (by simp [List.getD, hj])⟩
set_option maxHeartbeats 2000000 in
theorem alive8 (w : World) : Calls Try.prog 10 #[] w fun e w' => e = .returned (.bool true) ∧ Below w.heap.size w w' := by
  obtain ⟨K, hK⟩ : ∃ K : Nat → Prop, K = fun b => b < w.heap.size := ⟨_, rfl⟩
  have HK := Lib.hid hK
  clear hK
  have g0 := gd_new (n := 20) (by decide) (by decide)
  obtain ⟨s1, h1, W1, g1, r1, c1⟩ := bInsert_yes (one := true) (i := 0) g0 (Row.zero _ _) (by simp) (by simp) (by simp) (by decide) (by decide)
  obtain ⟨k1, d1, d2, d3⟩ := W1.made
  have m0 : (Ar.new 20).made = 0 := rfl
  have b0 : (Ar.new 20).busy = 0 := rfl
  have n0 : (Ar.new 20).n = 20 := rfl
  have n1 := W1.ext.n
  have k14 : k1 ≤ 4 := d1
  obtain ⟨s2, h2, W2, g2, r2, c2⟩ := bInsert_yes (one := false) (i := 0) g1 r1 (by simp) (by decide) (by simp) (by omega) (by
    show s1.busy + ((4 : Nat) : Int) < (s1.n : Int)
    omega)
  obtain ⟨k2, f1, f2, f3⟩ := W2.made
  have sn : Snd s2 := g2.snd (by simp) (by omega)
  have r1' := r1.ext W2.ext (fun x hx => List.mem_cons_of_mem h2 hx)
  have e2 : bIns (bIns [] 0 true) 0 false = [false, true] := rfl
  rw [e2] at r2
  have e1 : bIns ([] : List Bool) 0 true = [true] := rfl
  rw [e1] at r1'
  have R2 := Lib.hid r2
  have R1 := Lib.hid r1'
  have G2 := Lib.hid g2
  have Sn := Lib.hid sn
  have C1 := Lib.hid (fun (p : Nat) (w' : World) (a : Ars w' K p (Ar.new 20)) => show Calls Try.prog 17 #[.pointer (some ⟨p, 0, none⟩), .int .i64 0, .int .i64 0, .bool true] w' fun o w'' => o = .returned (.tuple #[.int .i64 h1, .int .i64 0]) ∧ Ars w'' K p s1 ∧ Kept K w' w'' from c1 a)
  have C2 := Lib.hid (fun (p : Nat) (w' : World) (a : Ars w' K p s1) => show Calls Try.prog 17 #[.pointer (some ⟨p, 0, none⟩), .int .i64 h1, .int .i64 0, .bool false] w' fun o w'' => o = .returned (.tuple #[.int .i64 h2, .int .i64 0]) ∧ Ars w'' K p s2 ∧ Kept K w' w'' from c2 a)
  clear g0 W1 g1 r1 c1 k1 d1 d2 d3 m0 b0 n0 n1 k14 W2 g2 r2 c2 k2 f1 f2 f3 sn r1' e1 e2
  go_enter Try.func10, Try.ntmps10
  go_wp2_with fail
  refine (new_yes 20 w (by decide) (by decide)).mono ?_
  rintro e w1 ⟨p, rfl, hb, ha⟩
  replace ha := ha K (fun _ h => by rw [HK.out] at h; exact h)
  have Hk := Lib.hid (Kept.of_below hb K)
  have Ha := Lib.hid ha
  clear hb ha
  go_wp2_with fail
  refine (C1.out p _ Ha.out).mono ?_
  rintro e w2 ⟨rfl, ha, hk⟩
  have H1 := Lib.hid (Hk.out.trans hk)
  have Ha := Lib.hid ha
  clear ha hk
  go_wp2_with fail
  refine (C2.out p _ Ha.out).mono ?_
  rintro e w3 ⟨rfl, ha, hk⟩
  have hk2 := H1.out.trans hk
  rw [HK.out] at hk2
  have B3 := Lib.hid (hk2.below_of (Nat.le_refl _))
  have A3 := Lib.hid ha
  clear ha hk hk2
  go_wp2_with fail
  refine (blen_row G2.out Sn.out R2.out A3.out).mono ?_
  rintro e w4 ⟨rfl, b4⟩
  have B4 := Lib.hid b4
  clear b4
  go_wp2_with fail
  refine (show Calls Try.prog 16 #[.pointer (some ⟨p, 0, none⟩), .int .i64 h2, .int .i64 2] w4 fun e w' => e = .returned (.int .i64 1) ∧ Below w4.heap.size w4 w' from brank_row (i := 2) G2.out Sn.out R2.out (A3.out.below B4.out) (by decide)).mono ?_
  rintro e w5 ⟨rfl, b5⟩
  have B5 := Lib.hid (B4.out.trans (b5.mono B4.out.size))
  clear b5
  go_wp2_with fail
  refine (ball_is G2.out Sn.out R2.out (by decide) (A3.out.below B5.out)).mono ?_
  rintro e w6 ⟨v6, K6, rfl, l6, _, b6⟩
  have B6 := Lib.hid (B5.out.trans (b6.mono B5.out.size))
  have L6 := Lib.hid l6.bools
  clear b6 l6
  go_wp2_with fail
  have B7 := Lib.hid (B6.out.alloc B6.out.size (.cells #[.bool false, .bool true] 4))
  refine (same_bools_is (xs := [false, true]) (L6.out.below ((Below.refl _ _).alloc (Nat.le_refl _) _)) (bools_new (l := [false, true])) (by decide)).mono ?_
  rintro e w7 ⟨rfl, b7⟩
  have B8 := Lib.hid (B7.out.trans (b7.mono B7.out.size))
  clear b7
  go_wp2_with fail
  refine (ball_is G2.out Sn.out R1.out (by decide) (A3.out.below B8.out)).mono ?_
  rintro e w8 ⟨v8, K8, rfl, l8, _, b8⟩
  have B9 := Lib.hid (B8.out.trans (b8.mono B8.out.size))
  have L8 := Lib.hid l8.bools
  clear b8 l8
  go_wp2_with fail
  have B10 := Lib.hid (B9.out.alloc B9.out.size (.cells #[.bool true] 4))
  refine (same_bools_is (xs := [true]) (L8.out.below ((Below.refl _ _).alloc (Nat.le_refl _) _)) (bools_new (l := [true])) (by decide)).mono ?_
  rintro e w9 ⟨rfl, b9⟩
  have B11 := Lib.hid (B10.out.trans (b9.mono B10.out.size))
  clear b9
  go_wp2_with fail
  go_ret
  exact ⟨rfl, B3.out.trans (B11.out.mono B3.out.size)⟩
end
end Go.Proofs.Ytjfeocoengheaaa
namespace Go.Proofs.Ytjfeocoengheaaa
set_option maxRecDepth 100000
open Go.RowKit
section
variable {w w' : World} {K : Nat → Prop} {p : Nat} {s s' : Ar} {L L' : List Int} {h : Int} {xs : List Bool}
theorem BoolsArg.bools {v : Value} (h : BoolsArg w v xs) : Bools w v xs := by
  rcases Nat.eq_zero_or_pos xs.length with h0 | h0
  · obtain ⟨a, c, rfl⟩ := h.val
    have e : xs = [] := List.length_eq_zero_iff.1 h0
    subst e
    exact .inl ⟨⟨a, c, rfl⟩, rfl⟩
  · obtain ⟨b, off, c, rfl, hb, hc, _, hcell⟩ := h.cell 0 h0
    exact .inr ⟨b, off, c, rfl, hb, hc, hcell⟩
theorem build_arg {v : Value} (hA : BoolsArg w v xs) (hx : xs.length ≤ 5000) (g : Gd s L) (hL : L.length ≤ 400000) (hm : s.made - s.busy ≤ 1000000000) (room : s.busy + (2 * ((xs.length + 63) / 64) : Nat) < s.n) :
    ∃ s' q, Went s s' (2 * ((xs.length + 63) / 64) - 1) ∧ Gd s' (q :: L) ∧ Row s' (q :: L) q xs ∧ ∀ (p : Nat) (W : World), Ars W (fun b => b < w.heap.size) p s → Below w.heap.size w W →
      Calls Try.prog 12 #[.pointer (some ⟨p, 0, none⟩), v] W fun o W' => o = .returned (.tuple #[.int .i64 q, .int .i64 0]) ∧ Ars W' (fun b => b < w.heap.size) p s' ∧ Below w.heap.size w W' := by
  rcases Nat.eq_zero_or_pos xs.length with h0 | h0
  · obtain ⟨a, c, rfl⟩ := hA.val
    have e : xs = [] := List.length_eq_zero_iff.1 h0
    subst e
    refine ⟨s, 0, Went.refl s, g.zero, Row.zero _ _, fun p W ha hb => bBuild_none.mono ?_⟩
    rintro o W' ⟨rfl, rfl⟩
    exact ⟨rfl, ha, hb⟩
  · obtain ⟨b, off, c, rfl, hb, hc, hcm, hcell⟩ := hA.cell 0 h0
    obtain ⟨s', e', q, t, a1, a2, a3, _, a5, a6, _, _, a9, a10⟩ := bBuild_ex g h0 hx hL hm
    have e0 : e' = 0 := by
      rcases a2 with a2 | ⟨_, a2⟩
      · exact a2
      · obtain ⟨k, hk, _, hb⟩ := a1.made
        have := a1.ext.n
        omega
    subst e0
    refine ⟨s', q, a1, a3, ⟨t, a9 rfl, .inr List.mem_cons_self, a6, a5, by rw [← t.len_list, a5]; omega⟩, fun p W ha hB => ?_⟩
    refine (a10 (K := fun b => b < w.heap.size) (p := p) (g := b) (off := off) (cap := c) (w := W) hc hcm hb (fun i hi => (hB.cell (p := ⟨b, off + i, none⟩) hb).trans (hcell i hi)) ha).mono ?_
    rintro o W' ⟨rfl, h1, h2⟩
    exact ⟨rfl, h1, hB.trans (h2.below_of hB.size)⟩
end
theorem bsel_spec : ∀ (l : List Bool) (one : Bool) (k : Nat), k < l.count one → bsel l one k < l.length ∧ l.getD (bsel l one k) false = one ∧ (l.take (bsel l one k)).count one = k
  | [], one, k, h => by simp at h
  | b :: l, one, k, h => by
    by_cases hb : b = one
    · subst hb
      cases k with
      | zero => simp [bsel]
      | succ k =>
        have h' : k < l.count b := by simpa using h
        obtain ⟨a1, a2, a3⟩ := bsel_spec l b k h'
        have e : bsel (b :: l) b (k + 1) = bsel l b k + 1 := by simp [bsel]; omega
        rw [e]
        refine ⟨by simp; exact a1, by simpa using a2, ?_⟩
        simp [a3]
    · have h' : k < l.count one := by rw [List.count_cons_of_ne (by simpa using hb)] at h; exact h
      obtain ⟨a1, a2, a3⟩ := bsel_spec l one k h'
      have e : bsel (b :: l) one k = bsel l one k + 1 := by simp [bsel, hb]; omega
      rw [e]
      refine ⟨by simp; exact a1, by simpa using a2, ?_⟩
      rw [List.take_succ_cons, List.count_cons_of_ne (by simpa using hb)]
      exact a3
end Go.Proofs.Ytjfeocoengheaaa
