/- Join, whichever the two are. -/
import Derived.Test.YtlnnljkifdmmlaaL10
namespace Go.Proofs.Ytlnnljkifdmmlaa
open Go.RowKit

section
variable {K : Nat → Prop} {q p : Nat} {s : Ar} {B : Int} {L : List Int} {w : World}
/-- What a way of a tree leaves: a list h of tree t, at most m nodes made. -/
def Leaves (K : Nat → Prop) (q p : Nat) (s : Ar) (B : Int) (L : List Int) (w : World) (t : Tr) (m : Nat) (e : Ending) (w' : World) : Prop :=
  ∃ (z : Int) (s' : Ar), e = .returned (.int .i64 z) ∧ Tre w' K q p s' 0 ∧ Kept K w w' ∧ Good s' B (z :: L) ∧ Ext s s' ∧ Rep s' z t ∧ s'.busy ≤ s.busy + m
theorem tjoin_good {x y : Int} {tx ty : Tr} (g : Good s B (x :: y :: L)) (hB : B ≤ 10000000) (rx : Rep s x tx) (ry : Rep s y ty) (hl : tx.len + ty.len ≤ 1000) (hx : tx.high ≤ 50) (hy : ty.high ≤ 50) (fx : tx.Fine) (fy : ty.Fine)
    (h1 : tx.Bal → ty.Bal → tx.high ≤ ty.high + 2 ∧ ty.high ≤ tx.high + 2) (hr : s.busy + 2 < s.n) (ha : Tre w K q p s 0) :
    Calls Try.prog 35 #[.pointer (some ⟨q, 0, none⟩), .int .i64 x, .int .i64 y] w (Leaves K q p s (B + 20) L w (tjoin tx ty) 3) := by
  by_cases hz : tx.isNil = true ∨ ty.isNil = true
  · refine (tjoin_none g hB rx ry (by omega) (by omega) hz ha).mono ?_
    rintro e w' ⟨z, a, b, c, d, r⟩
    exact ⟨z, s, a, b, c, d.mono (by omega), Ext.refl s, r, by omega⟩
  · have bx : tx.Bal := by
      rcases fx with rfl | f
      · exact absurd (.inl rfl) hz
      · exact f
    have bY : ty.Bal := by
      rcases fy with rfl | f
      · exact absurd (.inr rfl) hz
      · exact f
    obtain ⟨d1, d2⟩ := h1 bx bY
    by_cases a : tx.high ≤ ty.high + 1
    · by_cases b : ty.high ≤ tx.high + 1
      · refine (tjoin_flat g hB rx ry hl (by omega) (by omega) bx bY a b (by omega) ha).mono ?_
        rintro e w' ⟨z, s', a, b, c, d, x, r, y⟩
        exact ⟨z, s', a, b, c, d.mono (by omega), x, r, by omega⟩
      · rcases tjoin_right bx bY (by omega) with ⟨u, v, rfl, g', e⟩ | ⟨b', c, v, rfl, g', e⟩
        · have ej : (Tr.join u v).high = 1 + max u.high v.high := rfl
          rw [e]
          refine (tjoin_right1 g hB rx ry hl (by omega) (by omega) (by omega) bx bY.1 bY.2.1 (by omega) g' (by omega) ha).mono ?_
          rintro e w' ⟨z, s', a, b, c, d, x, r, y⟩
          exact ⟨z, s', a, b, c, d.mono (by omega), x, r, by omega⟩
        · have ej : (Tr.join (.join b' c) v).high = 1 + max (Tr.join b' c).high v.high := rfl
          rw [e]
          refine (tjoin_right2 g hB rx ry hl (by omega) (by omega) (by omega) bx bY.1 bY.2.1 (by omega) g' hr ha).mono ?_
          rintro e w' ⟨z, s', a, b, c, d, x, r, y⟩
          exact ⟨z, s', a, b, c, d.mono (by omega), x, r, by omega⟩
    · rcases tjoin_left bx bY (by omega) with ⟨u, v, rfl, g', e⟩ | ⟨u, b', c, rfl, g', e⟩
      · have ej : (Tr.join u v).high = 1 + max u.high v.high := rfl
        rw [e]
        refine (tjoin_left1 g hB rx ry hl (by omega) (by omega) (by omega) bx.1 bx.2.1 bY (by omega) g' (by omega) ha).mono ?_
        rintro e w' ⟨z, s', a, b, c, d, x, r, y⟩
        exact ⟨z, s', a, b, c, d.mono (by omega), x, r, by omega⟩
      · have ej : (Tr.join u (.join b' c)).high = 1 + max u.high (Tr.join b' c).high := rfl
        rw [e]
        refine (tjoin_left2 g hB rx ry hl (by omega) (by omega) (by omega) bx.1 bx.2.1 bY (by omega) g' hr ha).mono ?_
        rintro e w' ⟨z, s', a, b, c, d, x, r, y⟩
        exact ⟨z, s', a, b, c, d.mono (by omega), x, r, by omega⟩
end
end Go.Proofs.Ytlnnljkifdmmlaa
