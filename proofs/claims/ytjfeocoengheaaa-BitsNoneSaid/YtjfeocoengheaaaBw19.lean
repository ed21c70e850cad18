/- A row is built of an argument; what Select's answer says. -/
import Derived.Test.YtjfeocoengheaaaBw18
import Derived.Test.YtjfeocoengheaaaBarg
namespace Go.Proofs.Ytjfeocoengheaaa
set_option maxRecDepth 100000
open Go.RowKit
section
variable {w w' : World} {K : Nat → Prop} {p : Nat} {s s' : Ar} {L L' : List Int} {h : Int} {xs : List Bool}
theorem BoolsArg.bools {v : Value} (h : BoolsArg w v xs) : Bools w v xs := by
  rcases Nat.eq_zero_or_pos xs.length with h0 | h0
  · obtain ⟨a, c, rfl⟩ := h.val
    have e : xs = [] := List.length_eq_zero_iff.1 h0
    subst e
    exact .inl ⟨⟨a, c, rfl⟩, rfl⟩
  · obtain ⟨b, off, c, rfl, hb, hc, _, hcell⟩ := h.cell 0 h0
    exact .inr ⟨b, off, c, rfl, hb, hc, hcell⟩
theorem build_arg {v : Value} (hA : BoolsArg w v xs) (hx : xs.length ≤ 5000) (g : Gd s L) (hL : L.length ≤ 400000) (hm : s.made - s.busy ≤ 1000000000) (room : s.busy + (2 * ((xs.length + 63) / 64) : Nat) < s.n) :
    ∃ s' q, Went s s' (2 * ((xs.length + 63) / 64) - 1) ∧ Gd s' (q :: L) ∧ Row s' (q :: L) q xs ∧ ∀ (p : Nat) (W : World), Ars W (fun b => b < w.heap.size) p s → Below w.heap.size w W →
      Calls Try.prog 12 #[.pointer (some ⟨p, 0, none⟩), v] W fun o W' => o = .returned (.tuple #[.int .i64 q, .int .i64 0]) ∧ Ars W' (fun b => b < w.heap.size) p s' ∧ Below w.heap.size w W' := by
  rcases Nat.eq_zero_or_pos xs.length with h0 | h0
  · obtain ⟨a, c, rfl⟩ := hA.val
    have e : xs = [] := List.length_eq_zero_iff.1 h0
    subst e
    refine ⟨s, 0, Went.refl s, g.zero, Row.zero _ _, fun p W ha hb => bBuild_none.mono ?_⟩
    rintro o W' ⟨rfl, rfl⟩
    exact ⟨rfl, ha, hb⟩
  · obtain ⟨b, off, c, rfl, hb, hc, hcm, hcell⟩ := hA.cell 0 h0
    obtain ⟨s', e', q, t, a1, a2, a3, _, a5, a6, _, _, a9, a10⟩ := bBuild_ex g h0 hx hL hm
    have e0 : e' = 0 := by
      rcases a2 with a2 | ⟨_, a2⟩
      · exact a2
      · obtain ⟨k, hk, _, hb⟩ := a1.made
        have := a1.ext.n
        omega
    subst e0
    refine ⟨s', q, a1, a3, ⟨t, a9 rfl, .inr List.mem_cons_self, a6, a5, by rw [← t.len_list, a5]; omega⟩, fun p W ha hB => ?_⟩
    refine (a10 (K := fun b => b < w.heap.size) (p := p) (g := b) (off := off) (cap := c) (w := W) hc hcm hb (fun i hi => (hB.cell (p := ⟨b, off + i, none⟩) hb).trans (hcell i hi)) ha).mono ?_
    rintro o W' ⟨rfl, h1, h2⟩
    exact ⟨rfl, h1, hB.trans (h2.below_of hB.size)⟩
end
theorem bsel_spec : ∀ (l : List Bool) (one : Bool) (k : Nat), k < l.count one → bsel l one k < l.length ∧ l.getD (bsel l one k) false = one ∧ (l.take (bsel l one k)).count one = k
  | [], one, k, h => by simp at h
  | b :: l, one, k, h => by
    by_cases hb : b = one
    · subst hb
      cases k with
      | zero => simp [bsel]
      | succ k =>
        have h' : k < l.count b := by simpa using h
        obtain ⟨a1, a2, a3⟩ := bsel_spec l b k h'
        have e : bsel (b :: l) b (k + 1) = bsel l b k + 1 := by simp [bsel]; omega
        rw [e]
        refine ⟨by simp; exact a1, by simpa using a2, ?_⟩
        simp [a3]
    · have h' : k < l.count one := by rw [List.count_cons_of_ne (by simpa using hb)] at h; exact h
      obtain ⟨a1, a2, a3⟩ := bsel_spec l one k h'
      have e : bsel (b :: l) one k = bsel l one k + 1 := by simp [bsel, hb]; omega
      rw [e]
      refine ⟨by simp; exact a1, by simpa using a2, ?_⟩
      rw [List.take_succ_cons, List.count_cons_of_ne (by simpa using hb)]
      exact a3
end Go.Proofs.Ytjfeocoengheaaa
