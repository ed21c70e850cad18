/- What somebody has: a handle that stands for bits; reading it; all its bits. -/
import Derived.Test.YtjfeocoengheaaaBw15
import Derived.Test.YtjfeocoengheaaaBls
namespace Go.Proofs.Ytjfeocoengheaaa
set_option maxRecDepth 100000
open Go.RowKit
theorem BT.Full.high16 : ∀ {t : BT}, t.Full → 16 * t.high ≤ t.len
  | .leaf l, h => by
    have := h.len
    show 16 * 1 ≤ _
    omega
  | .fork a b, h => by
    obtain ⟨ha, hb, _⟩ := h
    have h1 := BT.Full.high16 ha
    have h2 := BT.Full.high16 hb
    have h3 := ha.len
    have h4 := hb.len
    show 16 * (1 + max a.high b.high) ≤ a.len + b.len
    omega
  | .nil, h => by cases h
theorem BT.Fine.high16 {t : BT} (h : t.Fine) : t.high ≤ t.len / 16 + 1 := by
  rcases h with rfl | ⟨l, rfl, _, _⟩ | h
  · exact Nat.zero_le _
  · show 1 ≤ _
    omega
  · have := h.high16
    omega
/-- The handle h, which one of L has (or which is none), stands for the bits xs. -/
def Row (s : Ar) (L : List Int) (h : Int) (xs : List Bool) : Prop := ∃ t : BT, BRep s h t ∧ (h = 0 ∨ h ∈ L) ∧ t.Fine ∧ t.list = xs ∧ t.len ≤ 5000
section
variable {w w' : World} {K : Nat → Prop} {p : Nat} {s s' : Ar} {L L' : List Int} {h : Int} {xs : List Bool}
theorem Row.ext (r : Row s L h xs) (E : Ext s s') (hL : ∀ x, x ∈ L → x ∈ L') : Row s' L' h xs := by
  obtain ⟨t, a, b, c⟩ := r
  exact ⟨t, a.ext E, b.imp id (hL h), c⟩
theorem Row.zero (s : Ar) (L : List Int) : Row s L 0 [] := ⟨.nil, rfl, .inl rfl, .inl rfl, rfl, Nat.zero_le _⟩
theorem Row.range (r : Row s L h xs) : 0 ≤ h ∧ h ≤ s.n := by
  obtain ⟨t, a, _⟩ := r
  exact a.range
theorem Row.nil_iff (r : Row s L h xs) : h = 0 ↔ xs = [] := by
  obtain ⟨t, a, b, c, rfl, e⟩ := r
  constructor
  · rintro rfl
    cases t with
    | nil => rfl
    | leaf l => exact absurd a.1 (by decide)
    | fork x y => exact absurd a.1 (by decide)
  · intro e
    have h0 : t.len = 0 := by rw [← t.len_list, e]; rfl
    have := BT.isNil_eq (c.nil_iff.2 h0)
    subst this
    exact a
theorem firm_zero (hf : h = 0 ∨ h ∈ L) : BFirm s (0 :: L) h := .inl (by rcases hf with rfl | h; exact List.mem_cons_self; exact List.mem_cons_of_mem _ h)
theorem blen_row (g : Gd s L) (sn : Snd s) (r : Row s L h xs) (ha : Ars w K p s) :
    Calls Try.prog 13 #[.pointer (some ⟨p, 0, none⟩), .int .i64 h] w fun r w' => r = .returned (.int .i64 xs.length) ∧ Below w.heap.size w w' := by
  obtain ⟨t, a, b, c, rfl, e⟩ := r
  obtain ⟨v, hv, vl, _, _⟩ := vw_any a g.zero (firm_zero b) (by omega)
  refine (blen_is hv ha sn.fit).mono ?_
  rintro e w' ⟨rfl, _, hb⟩
  rw [vl, t.len_list]
  exact ⟨rfl, hb⟩
theorem bget_row {i : Nat} (g : Gd s L) (sn : Snd s) (r : Row s L h xs) (ha : Ars w K p s) (hi : i < xs.length) :
    Calls Try.prog 15 #[.pointer (some ⟨p, 0, none⟩), .int .i64 h, .int .i64 i] w fun e w' => e = .returned (.tuple #[.bool (xs.getD i false), .bool true]) ∧ Below w.heap.size w w' := by
  obtain ⟨t, a, b, c, rfl, e⟩ := r
  have hi' : i < t.len := by rw [← t.len_list]; exact hi
  have hn : t.isNil = false := by
    cases ht : t.isNil
    · rfl
    · have := c.nil_iff.1 ht
      omega
  refine (bget_is g.zero sn ⟨ha, Below.refl _ _, a, firm_zero b, c.solid hn, by omega, Nat.le_refl _⟩ hi').mono ?_
  rintro e w' ⟨rfl, _, hb⟩
  exact ⟨rfl, hb⟩
theorem bget_out {i : Int} (g : Gd s L) (sn : Snd s) (r : Row s L h xs) (ha : Ars w K p s) (hi : i < 0 ∨ (xs.length : Int) ≤ i) :
    Calls Try.prog 15 #[.pointer (some ⟨p, 0, none⟩), .int .i64 h, .int .i64 i] w fun e w' => e = .returned (.tuple #[.bool false, .bool false]) ∧ Below w.heap.size w w' := by
  obtain ⟨t, a, b, c, rfl, e⟩ := r
  rw [t.len_list] at hi
  refine (bget_no g.zero sn a (firm_zero b) (by omega) ha hi).mono ?_
  rintro e w' ⟨rfl, _, hb⟩
  exact ⟨rfl, hb⟩
theorem brank_row {i : Nat} (g : Gd s L) (sn : Snd s) (r : Row s L h xs) (ha : Ars w K p s) (hi : i ≤ xs.length) :
    Calls Try.prog 16 #[.pointer (some ⟨p, 0, none⟩), .int .i64 h, .int .i64 i] w fun e w' => e = .returned (.int .i64 ((xs.take i).count true : Nat)) ∧ Below w.heap.size w w' := by
  obtain ⟨t, a, b, c, rfl, e⟩ := r
  rw [t.len_list] at hi
  by_cases h0 : i = 0
  · subst h0
    refine (brank_zero g.zero sn a (firm_zero b) (by omega) ha (.inl (by simp))).mono ?_
    rintro e w' ⟨rfl, _, hb⟩
    exact ⟨rfl, hb⟩
  have hn : t.isNil = false := by
    cases ht : t.isNil
    · rfl
    · have := c.nil_iff.1 ht
      omega
  refine (brank_in g.zero sn ⟨ha, Below.refl _ _, a, firm_zero b, c.solid hn, by omega, Nat.le_refl _⟩ hi (by omega)).mono ?_
  rintro e w' ⟨rfl, _, hb⟩
  exact ⟨rfl, hb⟩
theorem bselect_row {i : Nat} {one : Bool} (g : Gd s L) (sn : Snd s) (r : Row s L h xs) (ha : Ars w K p s) (hi : i < xs.count one) :
    Calls Try.prog 14 #[.pointer (some ⟨p, 0, none⟩), .int .i64 h, .bool one, .int .i64 i] w fun e w' => e = .returned (.int .i64 (bsel xs one i)) ∧ Below w.heap.size w w' := by
  obtain ⟨t, a, b, c, rfl, e⟩ := r
  have hn : t.isNil = false := by
    cases ht : t.isNil
    · rfl
    · have h1 := c.nil_iff.1 ht
      have h2 := List.count_le_length (a := one) (l := t.list)
      rw [t.len_list] at h2
      omega
  refine (bselect_in g.zero sn ⟨ha, Below.refl _ _, a, firm_zero b, c.solid hn, by omega, Nat.le_refl _⟩ hi).mono ?_
  rintro e w' ⟨rfl, _, hb⟩
  exact ⟨rfl, hb⟩
theorem bselect_out {i : Int} {one : Bool} (g : Gd s L) (sn : Snd s) (r : Row s L h xs) (ha : Ars w K p s) (hi : i < 0 ∨ (xs.count one : Int) ≤ i) :
    Calls Try.prog 14 #[.pointer (some ⟨p, 0, none⟩), .int .i64 h, .bool one, .int .i64 i] w fun e w' => e = .returned (.int .i64 (-1)) ∧ Below w.heap.size w w' := by
  obtain ⟨t, a, b, c, rfl, e⟩ := r
  refine (bselect_no g.zero sn a (firm_zero b) (by omega) ha hi).mono ?_
  rintro e w' ⟨rfl, _, hb⟩
  exact ⟨rfl, hb⟩
/-- A bit is put in: what comes of it. -/
theorem bInsert_ex {one : Bool} {i : Nat} (g : Gd s L) (r : Row s L h xs) (hi : i ≤ xs.length) (hx : xs.length < 5000) (hL : L.length ≤ 400000) (hm : s.made - s.busy ≤ 1000000000) : ∃ s' e' q, Went s s' (3 * (xs.length / 16 + 1) + 1) ∧ EOk s' e' ∧ Gd s' (q :: L) ∧ (e' ≠ 0 → q = 0) ∧ (e' = 0 → Row s' (q :: L) q (bIns xs i one)) ∧
    ∀ {K : Nat → Prop} {p : Nat} {w : World}, Ars w K p s → Calls Try.prog 17 #[.pointer (some ⟨p, 0, none⟩), .int .i64 h, .int .i64 i, .bool one] w fun o w' => o = .returned (.tuple #[.int .i64 q, .int .i64 e']) ∧ Ars w' K p s' ∧ Kept K w w' := by
  obtain ⟨t, a, b, c, rfl, e⟩ := r
  rw [t.len_list] at hi hx ⊢
  have hh := c.high16
  obtain ⟨s', e', q, hI, R⟩ := ins_ex (one := one) t i s (0 :: L) h g.zero hm (by simp; omega) a (firm_zero b) c hi (by omega) (by omega)
  obtain ⟨v, hv, vl, _, _⟩ := vw_any a g.zero (firm_zero b) (by omega)
  have sn : Snd s := g.snd (by omega) hm
  obtain ⟨f1, f2, f3⟩ := binsert_fine c hi one
  refine ⟨s', e', q, R.went.mono (by omega), R.eok, (R.gd.swap).unzero, R.zero, fun e0 => ⟨binsert t i one, R.hd.1 e0, .inr List.mem_cons_self, f1, f2, ?_⟩, fun ha => bInsert_walk hI R.zero hv (by omega) sn ha⟩
  rw [← BT.len_list, f2, bIns_len (by rw [t.len_list]; exact hi), t.len_list]
  omega
/-- A row is built at once: what comes of it. -/
theorem bBuild_ex {l : List Bool} (g : Gd s L) (hl : 1 ≤ l.length) (hx : l.length ≤ 5000) (hL : L.length ≤ 400000) (hm : s.made - s.busy ≤ 1000000000) : ∃ s' e' q t, Went s s' (2 * ((l.length + 63) / 64) - 1) ∧ EOk s' e' ∧ Gd s' (q :: L) ∧ (e' ≠ 0 → q = 0) ∧ t.list = l ∧ t.Fine ∧ (32 ≤ l.length → t.Full) ∧ Deep ((l.length + 63) / 64) t.high ∧ (e' = 0 → BRep s' q t) ∧
    ∀ {K : Nat → Prop} {p g off cap : Nat} {w : World}, l.length ≤ cap → cap ≤ 9223372036854775807 → K g → (∀ i, i < l.length → w.cell? ⟨g, off + i, none⟩ = some (.bool (l.getD i false))) → Ars w K p s →
      Calls Try.prog 12 #[.pointer (some ⟨p, 0, none⟩), .slice (some ⟨g, off, none⟩) l.length cap] w fun o w' => o = .returned (.tuple #[.int .i64 q, .int .i64 e']) ∧ Ars w' K p s' ∧ Kept K w w' := by
  obtain ⟨k, hk⟩ : ∃ k, (l.length + 63) / 64 = k := ⟨_, rfl⟩
  have k1 : 1 ≤ k := by omega
  obtain ⟨t, s', e', q, a1, a2, a3, a4, a5, a6, R⟩ := build_ex k k l s 0 L (Nat.le_refl _) k1 (by omega) (by omega) (by omega) g (.inl rfl) hm (by omega)
  rw [hk]
  refine ⟨s', e', q, t, R.went, R.eok, R.gd, R.zero, a1, a2, a4, a5, R.hd.1, fun c1 c2 c3 c4 c5 => ?_⟩
  exact bBuild_walk (by rw [hk]; exact a6) R.zero hl (by omega) c1 c2 c3 c4 c5
end
end Go.Proofs.Ytjfeocoengheaaa
