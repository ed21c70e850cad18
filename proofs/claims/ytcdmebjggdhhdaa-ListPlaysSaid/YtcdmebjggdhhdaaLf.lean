/- What stays live under a change; how mild a change is; behind the look at the left one. -/
import Derived.Test.YtcdmebjggdhhdaaL3
import Derived.Deep.CutBlock
import Derived.Deep.DeepCutAuto
namespace Go.Proofs.Ytcdmebjggdhhdaa
open Go.RowKit

/-- What is put ahead of an item, or behind the last. -/
def insF (x y n i : Int) (t : Tr) : Tr := if i = n then tjoin t (.item x y) else tjoin (.item x y) t
/-- What a change keeps of a tree's form: it stays in balance but for one, and grows by one item at most. -/
def Mild (F : Tr → Tr) : Prop := ∀ (t : Tr) (i : Nat), t.Bal → (tchange F t i).Fine ∧ t.high ≤ (tchange F t i).high + 1 ∧ (tchange F t i).high ≤ t.high + 1 ∧ (tchange F t i).len ≤ t.len + 1
theorem Has.kids {s s' : Ar} {h k0 k1 : Int} {l r : Tr} {m B' : Int} {L' : List Int} (x : Has s h (.join l r)) (e : s.get h = (⟨5, k0, k1, 0, 0, m, 0⟩, true)) (E : Ext s s') (g : Good s' B' L') : Has s' k0 l ∧ Has s' k1 r := by
  obtain ⟨r1, r2, r3, a, b, r4, r5, r6⟩ := x.rep
  have e' : s.nd h.toNat = ⟨5, k0, k1, 0, 0, m, 0⟩ := by
    unfold Ar.get at e
    rw [if_neg (by rw [r3]; simp; omega)] at e
    exact (Prod.mk.inj e).1
  rw [e'] at r4
  injection r4 with _ ea eb
  subst ea eb
  have hk : (s'.nd h.toNat).kids = [k0, k1, 0, 0] := by rw [E.nd _ r3, e']; rfl
  have live : ∀ k, k ∈ [k0, k1, 0, 0] → ∀ t, Rep s' k t → k = 0 ∨ s'.count k ≠ 0 := fun k hm t hr => by
    by_cases z : k = 0
    · exact .inl z
    · have := hr.range
      exact .inr (g.kid r1 (by rw [E.n]; exact r2) (E.u _ r3) (by rw [hk]; exact hm) (by omega)).2
  exact ⟨⟨r5.ext E, live _ (by simp) _ (r5.ext E)⟩, ⟨r6.ext E, live _ (by simp) _ (r6.ext E)⟩⟩
/-- A handle that the caller has, or that is a kid of what is used: it stays live. -/
def Firm (s : Ar) (L : List Int) (h : Int) : Prop := h ∈ L ∨ ∃ u : Nat, 1 ≤ u ∧ u ≤ s.n ∧ s.u u = true ∧ h ∈ (s.nd u).kids
theorem Firm.ext {s s' : Ar} {L L' : List Int} {h : Int} (f : Firm s L h) (E : Ext s s') (hL : ∀ x, x ∈ L → x ∈ L') : Firm s' L' h := by
  rcases f with f | ⟨u, u1, u2, u3, u4⟩
  · exact .inl (hL _ f)
  · exact .inr ⟨u, u1, by rw [E.n]; exact u2, E.u _ u3, by rw [E.nd _ u3]; exact u4⟩
theorem Firm.has {s : Ar} {B : Int} {L : List Int} {h : Int} {t : Tr} (f : Firm s L h) (g : Good s B L) (r : Rep s h t) : Has s h t := by
  refine ⟨r, ?_⟩
  by_cases z : h = 0
  · exact .inl z
  · have hr := r.range
    rcases f with f | ⟨u, u1, u2, u3, u4⟩
    · exact .inr (g.live (by omega) hr.2 f)
    · exact .inr (g.kid (h := u) (by omega) (by omega) u3 u4 (by omega)).2
theorem Has.firm {s s' : Ar} {h k0 k1 : Int} {l r : Tr} {m : Int} (x : Has s h (.join l r)) (e : s.get h = (⟨5, k0, k1, 0, 0, m, 0⟩, true)) (E : Ext s s') (L : List Int) : Firm s' L k0 ∧ Firm s' L k1 := by
  obtain ⟨r1, r2, r3, _⟩ := x.rep
  have e' : s.nd h.toNat = ⟨5, k0, k1, 0, 0, m, 0⟩ := by
    unfold Ar.get at e
    rw [if_neg (by rw [r3]; simp; omega)] at e
    exact (Prod.mk.inj e).1
  have hk : (s'.nd h.toNat).kids = [k0, k1, 0, 0] := by rw [E.nd _ r3, e']; rfl
  exact ⟨.inr ⟨h.toNat, by omega, by rw [E.n]; omega, E.u _ r3, by rw [hk]; simp⟩, .inr ⟨h.toNat, by omega, by rw [E.n]; omega, E.u _ r3, by rw [hk]; simp⟩⟩
/-- Behind the look at the left one's length. -/
structure DownAt (K : Nat → Prop) (q p : Nat) (s : Ar) (z : Nat) (k0 k1 nm : Int) (Boxes : World → Prop) (w W : World) : Prop where
  tre : Tre W K q p s 0
  box : W.heap[z]? = some (.cells #[.int .i64 5, .int .i64 k0, .int .i64 k1, .int .i64 0, .int .i64 0, .int .u64 nm, .int .u64 0] 64 (0, 0))
  below : Below w.heap.size w W
  boxes : Boxes W
end Go.Proofs.Ytcdmebjggdhhdaa
