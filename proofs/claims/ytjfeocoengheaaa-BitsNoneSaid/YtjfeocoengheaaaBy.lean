/- Rows of bits in an arena: a fork in balance, a bit more, a bit less, a row that is built: each comes to an end. -/
import Derived.Test.YtjfeocoengheaaaBx
namespace Go.Proofs.Ytjfeocoengheaaa
set_option maxRecDepth 100000

section
variable {s s' s1 s2 s3 : Ar} {L : List Int} {h x y e : Int}
theorem Gd.swap2 {a b : Int} (g : Gd s (a :: b :: L)) : Gd s (b :: a :: L) := g.perm fun k _ => by simp only [cnt_cons]; omega
theorem Gd.rot3 {a b c : Int} (g : Gd s (a :: b :: c :: L)) : Gd s (b :: c :: a :: L) := g.perm fun k _ => by simp only [cnt_cons]; omega
theorem Gd.lot3 {a b c : Int} (g : Gd s (a :: b :: c :: L)) : Gd s (c :: a :: b :: L) := g.perm fun k _ => by simp only [cnt_cons]; omega
theorem fork_ex {tx ty : BT} (g : Gd s (x :: y :: L)) (he : EOk s e) (hm : s.made - s.busy ≤ 1000000000) (hL : L.length ≤ 800000) (hx : BHd s e x tx) (hy : BHd s e y ty) (fx : tx.Full) (fy : ty.Full) (h1 : tx.high ≤ ty.high + 2) (h2 : ty.high ≤ tx.high + 2) (hh : tx.high ≤ 500) (hl : tx.len + ty.len ≤ 500000) :
    ∃ s' e' r, Fork s e x y s' e' r ∧ BRes s L e (bfork tx ty) 3 s' e' r := by
  have sn := g.snd (by simp; omega) hm
  by_cases e0 : e = 0
  · subst e0
    have rx := hx.1 rfl
    have ry := hy.1 rfl
    have hX := high_ex g tx x rx (.inl (by simp)) (by omega) (by omega)
    have hY := high_ex g ty y ry (.inl (by simp)) (by omega) (by omega)
    by_cases a : ty.high + 1 < tx.high
    · rcases bfork_left fx fy (by omega) with ⟨tu, tv, rfl, q1, q2⟩ | ⟨tu, tb, tc, rfl, q1, q2⟩
      · rw [q2]
        have el : (BT.fork tu tv).len = tu.len + tv.len := rfl
        have eh : (BT.fork tu tv).high = 1 + max tu.high tv.high := rfl
        rw [el] at hl
        obtain ⟨s1, u, v, o1, g1, w1, r1, r2, b1, n1⟩ := open_ex (L := y :: L) g hm (by simp; omega) rx fx.1.some fx.2.1.some (by omega)
        have hU := high_ex g1 tu u r1 (.inl (by simp)) (by omega) (by omega)
        have hV := high_ex g1 tv v r2 (.inl (by simp)) (by omega) (by omega)
        have md1 := w1.md
        obtain ⟨s2, e2, z, p2, d2⟩ := pair_ex (L := u :: L) (g1.rot3) (.inl rfl) (by omega) (by simp; omega) (r2.hd 0 (by omega)) ((ry.ext w1.ext).hd 0 (by omega)) (by omega)
        have md2 := d2.md
        obtain ⟨s3, e3, r, p3, d3⟩ := pair_ex (L := L) (g := d2.gd.swap2) d2.eok (by omega) (by omega) (((r1.ext d2.went.ext).hd 0 (by omega)).err fun a => absurd rfl a) d2.hd (by show tu.len + (tv.len + ty.len) ≤ _; omega)
        exact ⟨s3, e3, r, .l1 rfl sn hX hY (by omega) (by omega) a o1 (g1.snd (by simp; omega) (by omega)) hU hV (by omega) (by omega) q1 p2 p3, (((d3.from d2.went d2.stuck).from w1 fun a => a)).mono (by omega)⟩
      · rw [q2]
        have el : (BT.fork tu (.fork tb tc)).len = tu.len + (tb.len + tc.len) := rfl
        have eh : (BT.fork tu (.fork tb tc)).high = 1 + max tu.high (BT.fork tb tc).high := rfl
        rw [el] at hl
        obtain ⟨s1, u, v, o1, g1, w1, r1, r2, b1, n1⟩ := open_ex (L := y :: L) g hm (by simp; omega) rx fx.1.some fx.2.1.some (by show tu.len + (tb.len + tc.len) ≤ _; omega)
        have hU := high_ex g1 tu u r1 (.inl (by simp)) (by omega) (by omega)
        have hV := high_ex g1 _ v r2 (.inl (by simp)) (by show tb.len + tc.len ≤ _; omega) (by omega)
        have md1 := w1.md
        obtain ⟨s2, b, c, o2, g2, w2, r3, r4, b2, n2⟩ := open_ex (L := u :: y :: L) g1.swap2 (by omega) (by simp; omega) r2 fx.2.1.1.some fx.2.1.2.1.some (by omega)
        have md2 := w2.md
        have r1' := r1.ext w2.ext
        obtain ⟨s3, e3, z1, p3, d3⟩ := pair_ex (x := u) (y := b) (L := c :: y :: L) (g2.perm fun k _ => by simp only [cnt_cons]; omega) (.inl rfl) (by omega) (by simp; omega) (r1'.hd 0 (by omega)) (r3.hd 0 (by omega)) (by omega)
        have md3 := d3.md
        obtain ⟨s4, e4, z2, p4, d4⟩ := pair_ex (x := c) (y := y) (L := z1 :: L) (d3.gd.rot3) d3.eok (by omega) (by simp; omega) (((r4.ext d3.went.ext).hd 0 (by omega)).err fun a => absurd rfl a) ((((ry.ext w1.ext).ext w2.ext).ext d3.went.ext).hd 0 (by omega) |>.err fun a => absurd rfl a) (by omega)
        have md4 := d4.md
        obtain ⟨s5, e5, r, p5, d5⟩ := pair_ex (x := z1) (y := z2) (L := L) d4.gd.swap2 d4.eok (by omega) (by omega) ((d3.hd.ext d4.went.ext).err d4.stuck) d4.hd (by show (tu.len + tb.len) + (tc.len + ty.len) ≤ _; omega)
        exact ⟨s5, e5, r, .l2 rfl sn hX hY (by omega) (by omega) a o1 (g1.snd (by simp; omega) (by omega)) hU hV (by omega) (by omega) q1 o2 p3 p4 p5, (((((d5.from d4.went d4.stuck).from d3.went d3.stuck).from w2 fun a => a).from w1 fun a => a)).mono (by omega)⟩
    · by_cases b : tx.high + 1 < ty.high
      · rcases bfork_right fx fy (by omega) with ⟨tu, tv, rfl, q1, q2⟩ | ⟨tb, tc, tv, rfl, q1, q2⟩
        · rw [q2]
          have el : (BT.fork tu tv).len = tu.len + tv.len := rfl
          have eh : (BT.fork tu tv).high = 1 + max tu.high tv.high := rfl
          rw [el] at hl
          obtain ⟨s1, u, v, o1, g1, w1, r1, r2, b1, n1⟩ := open_ex (L := x :: L) g.swap2 hm (by simp; omega) ry fy.1.some fy.2.1.some (by omega)
          have hU := high_ex g1 tu u r1 (.inl (by simp)) (by omega) (by omega)
          have hV := high_ex g1 tv v r2 (.inl (by simp)) (by omega) (by omega)
          have md1 := w1.md
          obtain ⟨s2, e2, z, p2, d2⟩ := pair_ex (x := x) (y := u) (L := v :: L) (g1.perm fun k _ => by simp only [cnt_cons]; omega) (.inl rfl) (by omega) (by simp; omega) ((rx.ext w1.ext).hd 0 (by omega)) (r1.hd 0 (by omega)) (by omega)
          have md2 := d2.md
          obtain ⟨s3, e3, r, p3, d3⟩ := pair_ex (x := z) (y := v) (L := L) d2.gd d2.eok (by omega) (by omega) d2.hd (((r2.ext d2.went.ext).hd 0 (by omega)).err fun a => absurd rfl a) (by show (tx.len + tu.len) + tv.len ≤ _; omega)
          exact ⟨s3, e3, r, .r1 rfl sn hX hY (by omega) (by omega) b o1 (g1.snd (by simp; omega) (by omega)) hU hV (by omega) (by omega) q1 p2 p3, (((d3.from d2.went d2.stuck).from w1 fun a => a)).mono (by omega)⟩
        · rw [q2]
          have el : (BT.fork (.fork tb tc) tv).len = (tb.len + tc.len) + tv.len := rfl
          have eh : (BT.fork (.fork tb tc) tv).high = 1 + max (BT.fork tb tc).high tv.high := rfl
          rw [el] at hl
          obtain ⟨s1, u, v, o1, g1, w1, r1, r2, b1, n1⟩ := open_ex (L := x :: L) g.swap2 hm (by simp; omega) ry fy.1.some fy.2.1.some (by show (tb.len + tc.len) + tv.len ≤ _; omega)
          have hU := high_ex g1 _ u r1 (.inl (by simp)) (by show tb.len + tc.len ≤ _; omega) (by omega)
          have hV := high_ex g1 tv v r2 (.inl (by simp)) (by omega) (by omega)
          have md1 := w1.md
          obtain ⟨s2, b', c, o2, g2, w2, r3, r4, b2, n2⟩ := open_ex (L := v :: x :: L) g1 (by omega) (by simp; omega) r1 fy.1.1.some fy.1.2.1.some (by omega)
          have md2 := w2.md
          have r2' := r2.ext w2.ext
          have rx' := (rx.ext w1.ext).ext w2.ext
          obtain ⟨s3, e3, z1, p3, d3⟩ := pair_ex (x := x) (y := b') (L := c :: v :: L) (g2.perm fun k _ => by simp only [cnt_cons]; omega) (.inl rfl) (by omega) (by simp; omega) (rx'.hd 0 (by omega)) (r3.hd 0 (by omega)) (by omega)
          have md3 := d3.md
          obtain ⟨s4, e4, z2, p4, d4⟩ := pair_ex (x := c) (y := v) (L := z1 :: L) (d3.gd.rot3) d3.eok (by omega) (by simp; omega) (((r4.ext d3.went.ext).hd 0 (by omega)).err fun a => absurd rfl a) (((r2'.ext d3.went.ext).hd 0 (by omega)).err fun a => absurd rfl a) (by omega)
          have md4 := d4.md
          obtain ⟨s5, e5, r, p5, d5⟩ := pair_ex (x := z1) (y := z2) (L := L) d4.gd.swap2 d4.eok (by omega) (by omega) ((d3.hd.ext d4.went.ext).err d4.stuck) d4.hd (by show (tx.len + tb.len) + (tc.len + tv.len) ≤ _; omega)
          exact ⟨s5, e5, r, .r2 rfl sn hX hY (by omega) (by omega) b o1 (g1.snd (by simp; omega) (by omega)) hU hV (by omega) (by omega) q1 o2 p3 p4 p5, (((((d5.from d4.went d4.stuck).from d3.went d3.stuck).from w2 fun a => a).from w1 fun a => a)).mono (by omega)⟩
      · rw [bfork_even (by omega) (by omega)]
        obtain ⟨s', e', r, p, d⟩ := pair_ex g he hm (by omega) hx hy hl
        exact ⟨s', e', r, .even rfl sn hX hY (by omega) (by omega) (by omega) (by omega) p, d.mono (by omega)⟩
  · exact ⟨_, _, _, .err e0 sn, (err_res g he e0 hx hy).mono (by omega)⟩
end
end Go.Proofs.Ytjfeocoengheaaa
