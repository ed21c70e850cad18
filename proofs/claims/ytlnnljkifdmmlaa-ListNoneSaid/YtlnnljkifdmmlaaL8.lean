/- A join that is balanced. -/
import Derived.Test.YtlnnljkifdmmlaaL7
namespace Go.Proofs.Ytlnnljkifdmmlaa
open Go.RowKit

section
variable {K : Nat → Prop} {q p : Nat} {s s' s1 s2 s3 : Ar} {B : Int} {L : List Int} {e : Int} {w : World}
set_option maxHeartbeats 4000000 in
/-- One of the two is empty. -/
theorem tjoin_none {x y : Int} {tx ty : Tr} (g : Good s B (x :: y :: L)) (hB : B ≤ 10000000) (rx : Rep s x tx) (ry : Rep s y ty) (hx : tx.high ≤ 100) (hy : ty.high ≤ 100) (hz : tx.isNil = true ∨ ty.isNil = true) (ha : Tre w K q p s 0) :
    Calls Try.prog 35 #[.pointer (some ⟨q, 0, none⟩), .int .i64 x, .int .i64 y] w fun e w' =>
      ∃ z : Int, e = .returned (.int .i64 z) ∧ Tre w' K q p s 0 ∧ Kept K w w' ∧ Good s B (z :: L) ∧ Rep s z (tjoin tx ty) := by
  have H1 := Lib.hid (high_is (K := K) (q := q) (p := p) (e := 0) g (by omega) tx x w (g.has rx (by simp)) (by omega) ha)
  have H2 := fun w ha => Lib.hid (high_is (K := K) (q := q) (p := p) (e := 0) g (by omega) ty y w (g.has ry (by simp)) (by omega) ha)
  have x0 := rx.range
  have y0 := ry.range
  have n6 := g.ok.n2
  have E : (x = 0 ∧ tjoin tx ty = ty) ∨ (1 ≤ x ∧ y = 0 ∧ tjoin tx ty = tx) := by
    by_cases c : tx.isNil = true
    · cases tx with
      | nil => exact .inl ⟨rx, tjoin_nil_left ty⟩
      | item a b => cases c
      | join l r => cases c
    · have x1 := rx.pos (by simpa using c)
      rcases hz with c' | c'
      · exact absurd c' c
      · cases ty with
        | nil => exact .inr ⟨x1, ry, tjoin_nil_right tx⟩
        | item a b => cases c'
        | join l r => cases c'
  have G := Lib.hid g
  have Rx := Lib.hid rx
  have Ry := Lib.hid ry
  clear g rx ry ha hz hB hx hy
  rcases E with ⟨rfl, e0⟩ | ⟨x1, rfl, e0⟩
  · rw [e0]
    clear e0
    go_enter Try.func35, Try.ntmps35
    go_wp2_with fail
    refine H1.out.mono ?_
    rintro e w1 ⟨rfl, ha1, hk1⟩
    have H3 := H2 w1 ha1
    go_wp2_with fail
    refine H3.out.mono ?_
    rintro e w2 ⟨rfl, ha2, hk2⟩
    have c1 := ha2.c1
    go_wp2_with fail
    go_ret
    exact ⟨y, by go_num, ha2, (Kept.of_below hk1 K).trans (Kept.of_below hk2 K), G.out.unzero, Ry.out⟩
  · rw [e0]
    clear e0
    have g0 : (x == 0) = false := by simp; omega
    go_enter Try.func35, Try.ntmps35
    go_wp2_with fail
    refine H1.out.mono ?_
    rintro e w1 ⟨rfl, ha1, hk1⟩
    have H3 := H2 w1 ha1
    go_wp2_with fail
    refine H3.out.mono ?_
    rintro e w2 ⟨rfl, ha2, hk2⟩
    have c1 := ha2.c1
    go_wp2_with fail
    go_ret
    exact ⟨x, by go_num, ha2, (Kept.of_below hk1 K).trans (Kept.of_below hk2 K), G.out.perm (fun k _ => by simp only [cnt_cons]; rw [if_neg (show ¬ (0 : Int) = (k : Int) by omega)]; omega), Rx.out⟩
set_option maxHeartbeats 4000000 in
/-- The two are about as high. -/
theorem tjoin_flat {x y : Int} {tx ty : Tr} (g : Good s B (x :: y :: L)) (hB : B ≤ 10000000) (rx : Rep s x tx) (ry : Rep s y ty) (hl : tx.len + ty.len ≤ 1000) (hx : tx.high ≤ 100) (hy : ty.high ≤ 100) (bx : tx.Bal) (bY : ty.Bal) (h1 : tx.high ≤ ty.high + 1) (h2 : ty.high ≤ tx.high + 1) (hr : s.busy < s.n) (ha : Tre w K q p s 0) :
    Calls Try.prog 35 #[.pointer (some ⟨q, 0, none⟩), .int .i64 x, .int .i64 y] w fun e w' =>
      ∃ (z : Int) (s' : Ar), e = .returned (.int .i64 z) ∧ Tre w' K q p s' 0 ∧ Kept K w w' ∧ Good s' (B + 4) (z :: L) ∧ Ext s s' ∧ Rep s' z (tjoin tx ty) ∧ s'.busy = s.busy + 1 := by
  have H1 := Lib.hid (high_is (K := K) (q := q) (p := p) (e := 0) g (by omega) tx x w (g.has rx (by simp)) (by omega) ha)
  have H2 := fun w ha => Lib.hid (high_is (K := K) (q := q) (p := p) (e := 0) g (by omega) ty y w (g.has ry (by simp)) (by omega) ha)
  have H4 := fun w ha => Lib.hid (tpair_is (w := w) (K := K) (q := q) (p := p) g (by omega) rx ry hl hr ha)
  have x0 := rx.pos bx.some
  have y0 := ry.pos bY.some
  have gx : (x == 0) = false := by simp; omega
  have gy : (y == 0) = false := by simp; omega
  rw [tjoin_even bx bY h1 h2]
  clear g rx ry ha hB hl hr bx bY
  generalize tx.high = a at *
  generalize ty.high = b at *
  go_enter Try.func35, Try.ntmps35
  go_wp2_with fail
  refine H1.out.mono ?_
  rintro e w1 ⟨rfl, ha1, hk1⟩
  have H3 := H2 w1 ha1
  go_wp2_with fail
  refine H3.out.mono ?_
  rintro e w2 ⟨rfl, ha2, hk2⟩
  have c1 := ha2.c1
  have H5 := H4 w2 ha2
  go_wp2_with fail
  refine H5.out.mono ?_
  rintro e w3 ⟨z, s', rfl, ha3, hk3, g3, e3, r3, b3⟩
  go_wp2_with fail
  go_ret
  exact ⟨z, s', rfl, ha3, ((Kept.of_below hk1 K).trans (Kept.of_below hk2 K)).trans hk3, g3, e3, r3, b3⟩
end
end Go.Proofs.Ytlnnljkifdmmlaa
