/- A list of bits that the caller itself grows. -/
import Derived.Test.YtdipgcbppggdhaaGpA
import Derived.Test.YtdipgcbppggdhaaLaw
import Derived.Deep.Grids
import Derived.Test.YtdipgcbppggdhaaGpE
namespace Go.Proofs.Ytdipgcbppggdhaa
set_option maxRecDepth 100000
open Go.RowKit

/-- The slice v holds the bits xs; its row is one of K, from block B on. -/
def Bls (w : World) (B : Nat) (K : Nat → Prop) (v : Value) (xs : List Bool) : Prop := w.ownsRow B 4 1 v xs.length (xs.map (Value.bool)) ∧ ∀ g, v.ownBlock = some g → K g

section
variable {w w' : World} {B : Nat} {K K' : Nat → Prop} {v : Value} {xs : List Bool}
theorem Bls.nil (w : World) (B : Nat) (K : Nat → Prop) : Bls w B K (.slice none 0 0) [] := ⟨⟨rfl, .inl ⟨rfl, rfl⟩⟩, fun g h => by cases h⟩
theorem Bls.kept (h : Bls w B K v xs) (hk : Kept K w w') : Bls w' B K v xs := by
  obtain ⟨⟨h1, h2⟩, h3⟩ := h
  refine ⟨⟨h1, ?_⟩, h3⟩
  rcases h2 with h2 | ⟨g, cap, cur, rfl, hg, hh, r⟩
  · exact .inl h2
  · exact .inr ⟨g, cap, cur, rfl, hg, (hk.block g (lt_heap hh) (h3 g rfl)).trans hh, r⟩
theorem Bls.mono (h : Bls w B K v xs) (hk : ∀ b, b < w.heap.size → K b → K' b) : Bls w B K' v xs := by
  obtain ⟨⟨h1, h2⟩, h3⟩ := h
  refine ⟨⟨h1, h2⟩, fun g e => ?_⟩
  rcases h2 with ⟨rfl, _⟩ | ⟨g', cap, cur, rfl, hg, hh, r⟩
  · cases e
  · cases e
    exact hk _ (lt_heap hh) (h3 _ rfl)
theorem Bls.slice (h : Bls w B K v xs) : ∃ a c, v = .slice a xs.length c := by
  rcases h.1.2 with ⟨rfl, e⟩ | ⟨g, cap, cur, rfl, _⟩
  · exact ⟨none, 0, by rw [e]⟩
  · exact ⟨_, _, rfl⟩
theorem Bls.at_ (h : Bls w B K v xs) {i : Nat} (hi : i < xs.length) : ∃ g c, v = .slice (some ⟨g, 0, none⟩) xs.length c ∧ xs.length ≤ c ∧ K g ∧ ∀ j, j < xs.length → w.cell? ⟨g, j, none⟩ = some (.bool (xs.getD j false)) := by
  obtain ⟨⟨h1, h2⟩, h3⟩ := h
  rcases h2 with ⟨rfl, e⟩ | ⟨g, cap, cur, rfl, hg, hh, hl, hm, hs, ht⟩
  · omega
  · refine ⟨g, cap, rfl, hl, h3 g rfl, fun j hj => ?_⟩
    rw [cell_of_row _ _ _ _ _ _ hh, ← Array.getElem?_toList]
    have e : (cur.toList.take (xs.length * 1))[j]? = (xs.map (Value.bool))[j]? := by rw [ht]
    rw [List.getElem?_take, if_pos (by omega)] at e
    rw [e]
    simp [hj]
end

/-- What an append to the list leaves. -/
structure PushedB (w w' : World) (B : Nat) (K K' : Nat → Prop) (v' : Value) (xs : List Bool) : Prop where
  lst : Bls w' B K' v' xs
  more : ∀ b, K b → K' b
  new : ∀ b, K' b → b < w'.heap.size ∧ (K b ∨ w.heap.size ≤ b)
  size : w.heap.size ≤ w'.heap.size
  same : ∀ b, b < w.heap.size → ¬ K b → w'.heap[b]? = w.heap[b]?
  below : Below B w w'
  ne : ∃ a c, v' = .slice (some a) xs.length c

/-- 'append' of one number to the list. -/
theorem wpList_append_bls {w : World} {B : Nat} {K : Nat → Prop} {v : Value} {xs : List Bool} (hL : Bls w B K v xs) (hlt : ∀ b, K b → b < w.heap.size) (hB : B ≤ w.heap.size) (hlen : xs.length + 1 ≤ 1000000000)
    {ops : Array Oper} {rest : List Oper} {o : Oper} {a : Act} {Q : Exit → Act → World → Prop}
    (hg : o.guard = none) (s x : Operand) (hop : o.op = Op.call { callee := Callee.builtin Builtin.append, args := #[s, x], argTypes := #[52, 52] })
    (hs : a.eval s = v) (ad : Addr) (y : Bool) (c : Nat) (hx : a.eval x = .slice (some ad) 1 c) (hc : w.cell? ad = some (.bool y))
    (h : ∀ v' w' K', PushedB w w' B K K' v' (xs ++ [y]) → wpList Try.prog ops Q rest (a.put o.dst v') w') : wpList Try.prog ops Q (o :: rest) a w := by
  obtain ⟨i0, hi, hz0, hz1, hz2⟩ := info_parts info_bool
  have news : ∀ j u, ([Value.bool y] : List Value)[j]? = some u → w.cell? (ad.add j) = some u := by
    intro j u hj
    match j, hj with
    | 0, hj => simp at hj; subst hj; simpa [Addr.add] using hc
  have one : ∀ u ∈ ([Value.bool y] : List Value), u.oneCell' = true := by intro u hu; simp at hu; subst hu; rfl
  obtain ⟨⟨h1, h2⟩, h3⟩ := hL
  have grow : ∀ v' w', w'.ownsRow w.heap.size 4 1 v' (xs.length + 1) (xs.map (Value.bool) ++ [.bool y]) → w.grownBy w' none → wpList Try.prog ops Q rest (a.put o.dst v') w' := by
    intro v' w' ho hgr
    obtain ⟨g, cap, cur, rfl, hgg, hh, r1, r2, r3, r4⟩ : ∃ g cap cur, v' = .slice (some ⟨g, 0, none⟩) (xs.length + 1) cap ∧ w.heap.size ≤ g ∧ w'.heap[g]? = some (.cells cur 4 (0, 0)) ∧ xs.length + 1 ≤ cap ∧ cap ≤ maxLen ∧ cur.size = cap * 1 ∧ cur.toList.take ((xs.length + 1) * 1) = xs.map (Value.bool) ++ [.bool y] := by
      rcases ho.2 with ⟨_, h⟩ | h
      · omega
      · exact h
    refine h _ w' (fun b => K b ∨ b = g) ⟨⟨⟨by simp, .inr ⟨g, cap, cur, by simp, by omega, hh, by simpa using r1, r2, r3, by simpa using r4⟩⟩, fun g' e => by cases e; exact .inr rfl⟩, fun b hb => .inl hb, fun b hb => ?_, hgr.size, fun b hb _ => hgr.block b hb (by simp), ?_, ⟨g, 0, none⟩, cap, by simp⟩
    · rcases hb with hb | rfl
      · exact ⟨Nat.lt_of_lt_of_le (hlt b hb) hgr.size, .inl hb⟩
      · exact ⟨lt_heap hh, .inr hgg⟩
    · exact (Below.refl _ _).grown hgr hB (fun k e => by cases e)
  rcases h2 with ⟨rfl, e⟩ | ⟨g, cap, cur, rfl, hgg, hh, hl, hm, hcs, ht⟩
  · have e0 : xs = [] := List.length_eq_zero_iff.1 e
    subst e0
    exact wpList_append_grows w hg s x 52 hop 4 i0 (.bool false) 1 1 Try.underlying52 hi hz0 hz1 hz2 rfl (by decide) none 0 0 [] hs (fun _ => ⟨rfl, rfl⟩) rfl (fun b hb => by cases hb) ad 1 c [.bool y] hx rfl news one
      (by omega) (by unfold maxLen; omega) (by omega) grow
  · have old : ∀ j u, (xs.map (Value.bool))[j]? = some u → w.cell? ⟨g, 0 + j, none⟩ = some u := by
      intro j u hj
      have hj' : j < xs.length := by have := (List.getElem?_eq_some_iff.1 hj).1; simpa using this
      rw [cell_of_row _ _ _ _ _ _ hh, ← hj, ← ht, List.getElem?_take, if_pos (by omega), Array.getElem?_toList, Nat.zero_add]
    refine wpList_append_arg w hg s x 52 hop 4 i0 (.bool false) 1 1 Try.underlying52 hi hz0 hz1 hz2 rfl (by decide) g 0 xs.length cap (xs.map (Value.bool)) hs (by simp) old ad 1 c [.bool y] hx rfl news one
      (fun hr j hj => ?_) (by unfold maxLen; omega) (by omega) (fun hr => ?_) (fun _ v' w' ho hgr => grow v' w' ho hgr)
    · obtain rfl : j = 0 := by simp at hj; omega
      rw [cell_of_row _ _ _ _ _ _ hh]
      refine ⟨by simp; omega, frozen_of_row _ _ _ _ _ hh⟩
    · have e1 : w.setCells g (0 + xs.length * 1) [.bool y] = w.setCell ⟨g, xs.length, none⟩ (.bool y) := by
        simp [World.setCells]
      rw [e1]
      have hh' := heap_setCell_same w g xs.length cur 4 (.bool y) hh
      refine h _ _ K ⟨⟨⟨by simp, .inr ⟨g, cap, _, by simp, hgg, hh', by simpa using hr, hm, by simpa using hcs, ?_⟩⟩, fun g' e => by cases e; exact h3 _ rfl⟩, fun b hb => hb, fun b hb => ⟨by simpa using hlt b hb, .inl hb⟩, by simp, fun b _ hn => Below.heap_setCell _ _ _ _ (by rintro rfl; exact hn (h3 _ rfl)), (Below.refl _ _).setCell hgg _, ⟨g, 0, none⟩, cap, by simp⟩
      have ht' : cur.toList.take xs.length = xs.map (Value.bool) := by simpa using ht
      have hlt' : xs.length < cur.toList.length := by simp; omega
      rw [Array.toList_setIfInBounds]
      simp only [List.length_append, List.length_singleton, Nat.mul_one, List.map_append, List.map_cons, List.map_nil]
      rw [List.take_add_one, List.take_set, ht', List.getElem?_set, if_pos rfl, if_pos hlt', List.set_eq_of_length_le (by simp)]
      rfl
/-- The value reads as the bits xs. -/
def Bools (w : World) (v : Value) (xs : List Bool) : Prop := ((∃ a c, v = .slice a 0 c) ∧ xs = []) ∨ ∃ b off c, v = .slice (some ⟨b, off, none⟩) xs.length c ∧ b < w.heap.size ∧ xs.length ≤ c ∧ ∀ j, j < xs.length → w.cell? ⟨b, off + j, none⟩ = some (.bool (xs.getD j false))
section
variable {w w' : World} {B : Nat} {K K' : Nat → Prop} {v : Value} {xs : List Bool}
theorem Bools.slice (h : Bools w v xs) : ∃ a c, v = .slice a xs.length c := by
  rcases h with ⟨⟨a, c, rfl⟩, rfl⟩ | ⟨b, off, c, rfl, _⟩
  · exact ⟨_, _, rfl⟩
  · exact ⟨_, _, rfl⟩
theorem Bools.below (h : Bools w v xs) (hb : Below w.heap.size w w') : Bools w' v xs := by
  rcases h with h | ⟨b, off, c, e, h1, h2, h3⟩
  · exact .inl h
  · exact .inr ⟨b, off, c, e, Nat.lt_of_lt_of_le h1 hb.size, h2, fun j hj => (hb.cell (p := ⟨b, off + j, none⟩) h1).trans (h3 j hj)⟩
theorem Bls.bools (h : Bls w B K v xs) : Bools w v xs := by
  obtain ⟨⟨h1, h2⟩, h3⟩ := h
  rcases h2 with ⟨rfl, e⟩ | ⟨g, cap, cur, rfl, hg, hh, hl, hm, hs, ht⟩
  · exact .inl ⟨⟨_, _, rfl⟩, List.length_eq_zero_iff.1 e⟩
  · refine .inr ⟨g, 0, cap, rfl, lt_heap hh, hl, fun j hj => ?_⟩
    rw [Nat.zero_add, cell_of_row _ _ _ _ _ _ hh, ← Array.getElem?_toList]
    have e : (cur.toList.take (xs.length * 1))[j]? = (xs.map (Value.bool))[j]? := by rw [ht]
    rw [List.getElem?_take, if_pos (by omega)] at e
    rw [e]
    simp [hj]
end
end Go.Proofs.Ytdipgcbppggdhaa
namespace Go.Proofs.Ytdipgcbppggdhaa
set_option maxRecDepth 100000
open Go.ChangeShapes Go.WideShapes Go.ChangeAt Go.RowKit

/-- The value reads as the bits xs. -/
structure BoolsArg (w : World) (v : Value) (xs : List Bool) : Prop where
  val : ∃ a c, v = .slice a xs.length c
  cell : ∀ i, i < xs.length → ∃ b off c, v = .slice (some ⟨b, off, none⟩) xs.length c ∧ b < w.heap.size ∧ xs.length ≤ c ∧ c ≤ maxLen ∧ ∀ j, j < xs.length → w.cell? ⟨b, off + j, none⟩ = some (.bool (xs.getD j false))
  len : xs.length ≤ maxLen

theorem bools_arg {H : Type} {enc : TypeId × Value → H} {W : World} {v : Value} {d : DataW H} {ps : List MemPlace} {r : Reach} {b0 : Nat} (hv : Value.okWide Try.prog W r b0 52 v)
    (h : DataW.Trod enc Try.prog W 0 (fun _ => true) true 52 v d ps) : ∃ xs, BoolsArg W v xs := by
  obtain ⟨a0, len, cap, rfl⟩ := okWide_slice Try.underlying52 hv
  obtain ⟨fuel, hf⟩ := h
  rcases Go.Deep.open_bools Try.underlying52 Try.underlying4 (by kernel_rfl) hf with ⟨hcs, _⟩ | ⟨a, len', cap', B, hcs, _, hl, hm, _, hcell⟩
  · simp [Value.cells] at hcs
    obtain ⟨rfl, rfl, rfl⟩ := hcs
    exact ⟨[], ⟨_, _, rfl⟩, fun i hi => absurd hi (Nat.not_lt_zero _), Nat.zero_le _⟩
  · simp [Value.cells] at hcs
    obtain ⟨rfl, rfl, rfl⟩ := hcs
    have hlen : ((List.range len).map B).length = len := by simp
    refine ⟨(List.range len).map B, ⟨some a, cap, by rw [hlen]⟩, fun i hi => ?_, by rw [hlen]; omega⟩
    rw [hlen] at hi ⊢
    have h0 := hcell 0 (by omega)
    have hs : a.spot = none := by
      have := World.cell?_spot h0
      simpa [Addr.add] using this
    obtain ⟨b, off, spot⟩ := a
    dsimp only at hs
    subst hs
    refine ⟨b, off, cap, rfl, ?_, hl, hm, fun j hj => ?_⟩
    · have := block_lt_of_cell h0
      simpa [Addr.add] using this
    · have := hcell j (by omega)
      rw [Addr.add_lit] at this
      rw [this]
      simp [List.getD, hj]
end Go.Proofs.Ytdipgcbppggdhaa
namespace Go.Proofs.Ytdipgcbppggdhaa
set_option maxRecDepth 100000
open Go.RowKit
theorem BT.Full.high16 : ∀ {t : BT}, t.Full → 16 * t.high ≤ t.len
  | .leaf l, h => by
    have := h.len
    show 16 * 1 ≤ _
    omega
  | .fork a b, h => by
    obtain ⟨ha, hb, _⟩ := h
    have h1 := BT.Full.high16 ha
    have h2 := BT.Full.high16 hb
    have h3 := ha.len
    have h4 := hb.len
    show 16 * (1 + max a.high b.high) ≤ a.len + b.len
    omega
  | .nil, h => by cases h
theorem BT.Fine.high16 {t : BT} (h : t.Fine) : t.high ≤ t.len / 16 + 1 := by
  rcases h with rfl | ⟨l, rfl, _, _⟩ | h
  · exact Nat.zero_le _
  · show 1 ≤ _
    omega
  · have := h.high16
    omega
/-- The handle h, which one of L has (or which is none), stands for the bits xs. -/
def Row (s : Ar) (L : List Int) (h : Int) (xs : List Bool) : Prop := ∃ t : BT, BRep s h t ∧ (h = 0 ∨ h ∈ L) ∧ t.Fine ∧ t.list = xs ∧ t.len ≤ 5000
section
variable {w w' : World} {K : Nat → Prop} {p : Nat} {s s' : Ar} {L L' : List Int} {h : Int} {xs : List Bool}
theorem Row.ext (r : Row s L h xs) (E : Ext s s') (hL : ∀ x, x ∈ L → x ∈ L') : Row s' L' h xs := by
  obtain ⟨t, a, b, c⟩ := r
  exact ⟨t, a.ext E, b.imp id (hL h), c⟩
theorem Row.zero (s : Ar) (L : List Int) : Row s L 0 [] := ⟨.nil, rfl, .inl rfl, .inl rfl, rfl, Nat.zero_le _⟩
theorem Row.range (r : Row s L h xs) : 0 ≤ h ∧ h ≤ s.n := by
  obtain ⟨t, a, _⟩ := r
  exact a.range
theorem Row.nil_iff (r : Row s L h xs) : h = 0 ↔ xs = [] := by
  obtain ⟨t, a, b, c, rfl, e⟩ := r
  constructor
  · rintro rfl
    cases t with
    | nil => rfl
    | leaf l => exact absurd a.1 (by decide)
    | fork x y => exact absurd a.1 (by decide)
  · intro e
    have h0 : t.len = 0 := by rw [← t.len_list, e]; rfl
    have := BT.isNil_eq (c.nil_iff.2 h0)
    subst this
    exact a
theorem firm_zero (hf : h = 0 ∨ h ∈ L) : BFirm s (0 :: L) h := .inl (by rcases hf with rfl | h; exact List.mem_cons_self; exact List.mem_cons_of_mem _ h)
theorem blen_row (g : Gd s L) (sn : Snd s) (r : Row s L h xs) (ha : Ars w K p s) :
    Calls Try.prog 34 #[.pointer (some ⟨p, 0, none⟩), .int .i64 h] w fun r w' => r = .returned (.int .i64 xs.length) ∧ Below w.heap.size w w' := by
  obtain ⟨t, a, b, c, rfl, e⟩ := r
  obtain ⟨v, hv, vl, _, _⟩ := vw_any a g.zero (firm_zero b) (by omega)
  refine (blen_is hv ha sn.fit).mono ?_
  rintro e w' ⟨rfl, _, hb⟩
  rw [vl, t.len_list]
  exact ⟨rfl, hb⟩
theorem bget_row {i : Nat} (g : Gd s L) (sn : Snd s) (r : Row s L h xs) (ha : Ars w K p s) (hi : i < xs.length) :
    Calls Try.prog 35 #[.pointer (some ⟨p, 0, none⟩), .int .i64 h, .int .i64 i] w fun e w' => e = .returned (.tuple #[.bool (xs.getD i false), .bool true]) ∧ Below w.heap.size w w' := by
  obtain ⟨t, a, b, c, rfl, e⟩ := r
  have hi' : i < t.len := by rw [← t.len_list]; exact hi
  have hn : t.isNil = false := by
    cases ht : t.isNil
    · rfl
    · have := c.nil_iff.1 ht
      omega
  refine (bget_is g.zero sn ⟨ha, Below.refl _ _, a, firm_zero b, c.solid hn, by omega, Nat.le_refl _⟩ hi').mono ?_
  rintro e w' ⟨rfl, _, hb⟩
  exact ⟨rfl, hb⟩
theorem bget_out {i : Int} (g : Gd s L) (sn : Snd s) (r : Row s L h xs) (ha : Ars w K p s) (hi : i < 0 ∨ (xs.length : Int) ≤ i) :
    Calls Try.prog 35 #[.pointer (some ⟨p, 0, none⟩), .int .i64 h, .int .i64 i] w fun e w' => e = .returned (.tuple #[.bool false, .bool false]) ∧ Below w.heap.size w w' := by
  obtain ⟨t, a, b, c, rfl, e⟩ := r
  rw [t.len_list] at hi
  refine (bget_no g.zero sn a (firm_zero b) (by omega) ha hi).mono ?_
  rintro e w' ⟨rfl, _, hb⟩
  exact ⟨rfl, hb⟩
theorem brank_row {i : Nat} (g : Gd s L) (sn : Snd s) (r : Row s L h xs) (ha : Ars w K p s) (hi : i ≤ xs.length) :
    Calls Try.prog 44 #[.pointer (some ⟨p, 0, none⟩), .int .i64 h, .int .i64 i] w fun e w' => e = .returned (.int .i64 ((xs.take i).count true : Nat)) ∧ Below w.heap.size w w' := by
  obtain ⟨t, a, b, c, rfl, e⟩ := r
  rw [t.len_list] at hi
  by_cases h0 : i = 0
  · subst h0
    refine (brank_zero g.zero sn a (firm_zero b) (by omega) ha (.inl (by simp))).mono ?_
    rintro e w' ⟨rfl, _, hb⟩
    exact ⟨rfl, hb⟩
  have hn : t.isNil = false := by
    cases ht : t.isNil
    · rfl
    · have := c.nil_iff.1 ht
      omega
  refine (brank_in g.zero sn ⟨ha, Below.refl _ _, a, firm_zero b, c.solid hn, by omega, Nat.le_refl _⟩ hi (by omega)).mono ?_
  rintro e w' ⟨rfl, _, hb⟩
  exact ⟨rfl, hb⟩
theorem bselect_row {i : Nat} {one : Bool} (g : Gd s L) (sn : Snd s) (r : Row s L h xs) (ha : Ars w K p s) (hi : i < xs.count one) :
    Calls Try.prog 45 #[.pointer (some ⟨p, 0, none⟩), .int .i64 h, .bool one, .int .i64 i] w fun e w' => e = .returned (.int .i64 (bsel xs one i)) ∧ Below w.heap.size w w' := by
  obtain ⟨t, a, b, c, rfl, e⟩ := r
  have hn : t.isNil = false := by
    cases ht : t.isNil
    · rfl
    · have h1 := c.nil_iff.1 ht
      have h2 := List.count_le_length (a := one) (l := t.list)
      rw [t.len_list] at h2
      omega
  refine (bselect_in g.zero sn ⟨ha, Below.refl _ _, a, firm_zero b, c.solid hn, by omega, Nat.le_refl _⟩ hi).mono ?_
  rintro e w' ⟨rfl, _, hb⟩
  exact ⟨rfl, hb⟩
theorem bselect_out {i : Int} {one : Bool} (g : Gd s L) (sn : Snd s) (r : Row s L h xs) (ha : Ars w K p s) (hi : i < 0 ∨ (xs.count one : Int) ≤ i) :
    Calls Try.prog 45 #[.pointer (some ⟨p, 0, none⟩), .int .i64 h, .bool one, .int .i64 i] w fun e w' => e = .returned (.int .i64 (-1)) ∧ Below w.heap.size w w' := by
  obtain ⟨t, a, b, c, rfl, e⟩ := r
  refine (bselect_no g.zero sn a (firm_zero b) (by omega) ha hi).mono ?_
  rintro e w' ⟨rfl, _, hb⟩
  exact ⟨rfl, hb⟩
/-- A bit is put in: what comes of it. -/
theorem bInsert_ex {one : Bool} {i : Nat} (g : Gd s L) (r : Row s L h xs) (hi : i ≤ xs.length) (hx : xs.length < 5000) (hL : L.length ≤ 400000) (hm : s.made - s.busy ≤ 1000000000) : ∃ s' e' q, Went s s' (3 * (xs.length / 16 + 1) + 1) ∧ EOk s' e' ∧ Gd s' (q :: L) ∧ (e' ≠ 0 → q = 0) ∧ (e' = 0 → Row s' (q :: L) q (bIns xs i one)) ∧
    ∀ {K : Nat → Prop} {p : Nat} {w : World}, Ars w K p s → Calls Try.prog 50 #[.pointer (some ⟨p, 0, none⟩), .int .i64 h, .int .i64 i, .bool one] w fun o w' => o = .returned (.tuple #[.int .i64 q, .int .i64 e']) ∧ Ars w' K p s' ∧ Kept K w w' := by
  obtain ⟨t, a, b, c, rfl, e⟩ := r
  rw [t.len_list] at hi hx ⊢
  have hh := c.high16
  obtain ⟨s', e', q, hI, R⟩ := ins_ex (one := one) t i s (0 :: L) h g.zero hm (by simp; omega) a (firm_zero b) c hi (by omega) (by omega)
  obtain ⟨v, hv, vl, _, _⟩ := vw_any a g.zero (firm_zero b) (by omega)
  have sn : Snd s := g.snd (by omega) hm
  obtain ⟨f1, f2, f3⟩ := binsert_fine c hi one
  refine ⟨s', e', q, R.went.mono (by omega), R.eok, (R.gd.swap).unzero, R.zero, fun e0 => ⟨binsert t i one, R.hd.1 e0, .inr List.mem_cons_self, f1, f2, ?_⟩, fun ha => bInsert_walk hI R.zero hv (by omega) sn ha⟩
  rw [← BT.len_list, f2, bIns_len (by rw [t.len_list]; exact hi), t.len_list]
  omega
end
end Go.Proofs.Ytdipgcbppggdhaa
namespace Go.Proofs.Ytdipgcbppggdhaa
set_option maxRecDepth 100000
open Go.RowKit
end Go.Proofs.Ytdipgcbppggdhaa
namespace Go.Proofs.Ytdipgcbppggdhaa
set_option maxRecDepth 100000
open Go.RowKit
section
variable {w w' : World} {K : Nat → Prop} {p : Nat} {s s' : Ar} {L L' : List Int} {h : Int} {xs : List Bool}
/-- A bit is put in where there is room. -/
theorem bInsert_yes {one : Bool} {i : Nat} (g : Gd s L) (r : Row s L h xs) (hi : i ≤ xs.length) (hx : xs.length < 5000) (hL : L.length ≤ 400000) (hm : s.made - s.busy ≤ 1000000000) (room : s.busy + (3 * (xs.length / 16 + 1) + 1 : Nat) < s.n) : ∃ s' q, Went s s' (3 * (xs.length / 16 + 1) + 1) ∧ Gd s' (q :: L) ∧ Row s' (q :: L) q (bIns xs i one) ∧
    ∀ {K : Nat → Prop} {p : Nat} {w : World}, Ars w K p s → Calls Try.prog 50 #[.pointer (some ⟨p, 0, none⟩), .int .i64 h, .int .i64 i, .bool one] w fun o w' => o = .returned (.tuple #[.int .i64 q, .int .i64 0]) ∧ Ars w' K p s' ∧ Kept K w w' := by
  obtain ⟨s', e', q, a1, a2, a3, _, a5, a6⟩ := bInsert_ex (one := one) g r hi hx hL hm
  have e0 : e' = 0 := by
    rcases a2 with a2 | ⟨_, a2⟩
    · exact a2
    · obtain ⟨k, hk, _, hb⟩ := a1.made
      have := a1.ext.n
      omega
  subst e0
  exact ⟨s', q, a1, a3, a5 rfl, a6⟩
theorem bools_new {l : List Bool} : Bools (w.alloc (.cells (l.map Value.bool).toArray 4)) (.slice (some ⟨w.heap.size, 0, none⟩) l.length l.length) l :=
  .inr ⟨_, 0, _, rfl, by simp, Nat.le_refl _, fun j hj => cell_new (by simp) (by simp [List.getD, hj])⟩
end
end Go.Proofs.Ytdipgcbppggdhaa
namespace Go.Proofs.Ytdipgcbppggdhaa
set_option maxRecDepth 100000
open Go.RowKit
section
variable {w w' : World} {K : Nat → Prop} {p : Nat} {s s' : Ar} {L L' : List Int} {h : Int} {xs : List Bool}
end
theorem bsel_spec : ∀ (l : List Bool) (one : Bool) (k : Nat), k < l.count one → bsel l one k < l.length ∧ l.getD (bsel l one k) false = one ∧ (l.take (bsel l one k)).count one = k
  | [], one, k, h => by simp at h
  | b :: l, one, k, h => by
    by_cases hb : b = one
    · subst hb
      cases k with
      | zero => simp [bsel]
      | succ k =>
        have h' : k < l.count b := by simpa using h
        obtain ⟨a1, a2, a3⟩ := bsel_spec l b k h'
        have e : bsel (b :: l) b (k + 1) = bsel l b k + 1 := by simp [bsel]; omega
        rw [e]
        refine ⟨by simp; exact a1, by simpa using a2, ?_⟩
        simp [a3]
    · have h' : k < l.count one := by rw [List.count_cons_of_ne (by simpa using hb)] at h; exact h
      obtain ⟨a1, a2, a3⟩ := bsel_spec l one k h'
      have e : bsel (b :: l) one k = bsel l one k + 1 := by simp [bsel, hb]; omega
      rw [e]
      refine ⟨by simp; exact a1, by simpa using a2, ?_⟩
      rw [List.take_succ_cons, List.count_cons_of_ne (by simpa using hb)]
      exact a3
end Go.Proofs.Ytdipgcbppggdhaa
