/- A bit is taken out: what comes of it. -/
import Derived.Test.YtjfeocoengheaaaBw22
import Derived.Test.YtjfeocoengheaaaGpF
namespace Go.Proofs.Ytjfeocoengheaaa
set_option maxRecDepth 100000
open Go.RowKit
section
variable {w w' : World} {K : Nat → Prop} {p : Nat} {s s' : Ar} {L L' : List Int} {h : Int} {xs : List Bool}
theorem bDelete_ex {i : Nat} (g : Gd s L) (r : Row s L h xs) (hi : i < xs.length) (hL : L.length ≤ 400000) (hm : s.made - s.busy ≤ 1000000000) : ∃ s' e' q, Went s s' (3 * (xs.length / 16 + 1)) ∧ EOk s' e' ∧ Gd s' (q :: L) ∧ (e' ≠ 0 → q = 0) ∧ (e' = 0 → Row s' (q :: L) q (bDel xs i)) ∧
    ∀ {K : Nat → Prop} {p : Nat} {w : World}, Ars w K p s → Calls Try.prog 18 #[.pointer (some ⟨p, 0, none⟩), .int .i64 h, .int .i64 i] w fun o w' => o = .returned (.tuple #[.int .i64 q, .int .i64 e']) ∧ Ars w' K p s' ∧ Kept K w w' := by
  obtain ⟨t, a, b, c, rfl, e⟩ := r
  rw [t.len_list] at hi ⊢
  have hh := c.high16
  obtain ⟨s', e', q, hI, R⟩ := cut_ex t i s (0 :: L) h g.zero hm (by simp; omega) a (firm_zero b) c hi (by omega) (by omega)
  obtain ⟨v, hv, vl, _, _⟩ := vw_any a g.zero (firm_zero b) (by omega)
  have sn : Snd s := g.snd (by omega) hm
  obtain ⟨f1, f2⟩ := bcut_fine c hi
  refine ⟨s', e', q, R.went.mono (by omega), R.eok, (R.gd.swap).unzero, R.zero, fun e0 => ⟨bcut t i, R.hd.1 e0, .inr List.mem_cons_self, f1, f2, ?_⟩, fun ha => bDelete_walk hI R.zero hv (by omega) sn ha⟩
  have := bDel_len (l := t.list) (i := i) (by rw [t.len_list]; exact hi)
  rw [← BT.len_list, f2]
  rw [t.len_list] at this
  omega
/-- A bit is taken out where there is room. -/
theorem bDelete_yes {i : Nat} (g : Gd s L) (r : Row s L h xs) (hi : i < xs.length) (hL : L.length ≤ 400000) (hm : s.made - s.busy ≤ 1000000000) (room : s.busy + (3 * (xs.length / 16 + 1) : Nat) < s.n) : ∃ s' q, Went s s' (3 * (xs.length / 16 + 1)) ∧ Gd s' (q :: L) ∧ Row s' (q :: L) q (bDel xs i) ∧
    ∀ {K : Nat → Prop} {p : Nat} {w : World}, Ars w K p s → Calls Try.prog 18 #[.pointer (some ⟨p, 0, none⟩), .int .i64 h, .int .i64 i] w fun o w' => o = .returned (.tuple #[.int .i64 q, .int .i64 0]) ∧ Ars w' K p s' ∧ Kept K w w' := by
  obtain ⟨s', e', q, a1, a2, a3, _, a5, a6⟩ := bDelete_ex g r hi hL hm
  have e0 : e' = 0 := by
    rcases a2 with a2 | ⟨_, a2⟩
    · exact a2
    · obtain ⟨k, hk, _, hb⟩ := a1.made
      have := a1.ext.n
      omega
  subst e0
  exact ⟨s', q, a1, a3, a5 rfl, a6⟩
theorem bDelete_none {i : Int} (g : Gd s L) (r : Row s L h xs) (hi : i < 0 ∨ (xs.length : Int) ≤ i) (sn : Snd s) (ha : Ars w K p s) :
    Calls Try.prog 18 #[.pointer (some ⟨p, 0, none⟩), .int .i64 h, .int .i64 i] w fun o w' => o = .returned (.tuple #[.int .i64 0, .int .i64 3]) ∧ Ars w' K p s ∧ Below w.heap.size w w' := by
  obtain ⟨t, a, b, c, rfl, e⟩ := r
  obtain ⟨v, hv, vl, _, _⟩ := vw_any a g.zero (firm_zero b) (by omega)
  rw [t.len_list, ← vl] at hi
  exact bDelete_no hv hi sn.fit ha
end
end Go.Proofs.Ytjfeocoengheaaa
