/- A join that turns: the right one is higher. -/
import Derived.Test.YtlnnljkifdmmlaaL9
namespace Go.Proofs.Ytlnnljkifdmmlaa
open Go.RowKit

section
variable {K : Nat → Prop} {q p : Nat} {s s' s1 s2 s3 : Ar} {B : Int} {L : List Int} {e : Int} {w : World}
set_option maxHeartbeats 4000000 in
theorem tjoin_right1 {x y : Int} {tx u v : Tr} (g : Good s B (x :: y :: L)) (hB : B ≤ 10000000) (rx : Rep s x tx) (ry : Rep s y (.join u v)) (hl : tx.len + (u.len + v.len) ≤ 1000) (hu : u.high ≤ 50) (hv : v.high ≤ 50) (hx : tx.high ≤ 100) (bX : tx.Bal) (bu : u.Bal) (bv : v.Bal) (h1 : (Tr.join u v).high = tx.high + 2) (h2 : u.high ≤ v.high) (hr : s.busy + 1 < s.n) (ha : Tre w K q p s 0) :
    Calls Try.prog 35 #[.pointer (some ⟨q, 0, none⟩), .int .i64 x, .int .i64 y] w fun e w' =>
      ∃ (z : Int) (s' : Ar), e = .returned (.int .i64 z) ∧ Tre w' K q p s' 0 ∧ Kept K w w' ∧ Good s' (B + 10) (z :: L) ∧ Ext s s' ∧ Rep s' z (.join (.join tx u) v) ∧ s'.busy = s.busy + 2 := by
  have ej : (Tr.join u v).high = 1 + max u.high v.high := rfl
  have H1 := Lib.hid (high_is (K := K) (q := q) (p := p) (e := 0) g (by omega) tx x w (g.has rx (by simp)) (by omega) ha)
  have H2 := fun w ha => Lib.hid (high_is (K := K) (q := q) (p := p) (e := 0) g (by omega) (.join u v) y w (g.has ry (by simp)) (by omega) ha)
  have HO := fun w ha => Lib.hid (topen_good (w := w) (K := K) (q := q) (p := p) (e := 0) g.swap (by omega) ry bu.some bv.some ha)
  have x0 := rx.pos bX.some
  have y0 := ry.1
  have gx : (x == 0) = false := by simp; omega
  have gy : (y == 0) = false := by simp; omega
  clear ha
  generalize hj : (Tr.join u v).high = a at *
  go_enter Try.func35, Try.ntmps35
  go_wp2_with fail
  refine H1.out.mono ?_
  rintro e w1 ⟨rfl, ha1, hk1⟩
  have H3 := H2 w1 ha1
  go_wp2_with fail
  refine H3.out.mono ?_
  rintro e w2 ⟨rfl, ha2, hk2⟩
  have c1 := ha2.c1
  have H5 := HO w2 ha2
  go_wp2_with fail
  refine H5.out.mono ?_
  rintro e w3 ⟨k0, k1, s3, rfl, ha3, hk3, g3, e3, r0, r1, b3⟩
  go_wp2_with fail
  have HV := Lib.hid (high_is (K := K) (q := q) (p := p) (e := 0) g3 (by omega) v k1 w3 (g3.has r1 (by simp)) (by omega) ha3)
  refine HV.out.mono ?_
  rintro e w4 ⟨rfl, ha4, hk4⟩
  have HU := Lib.hid (high_is (K := K) (q := q) (p := p) (e := 0) g3 (by omega) u k0 w4 (g3.has r0 (by simp)) (by omega) ha4)
  go_wp2_with fail
  refine HU.out.mono ?_
  rintro e w5 ⟨rfl, ha5, hk5⟩
  have P1 := Lib.hid (tpair_is (w := w5) (K := K) (q := q) (p := p) (x := x) (y := k0) (L := k1 :: L) (g3.perm fun k _ => by simp only [cnt_cons]; omega) (by omega) (rx.ext e3) r0 (by omega) (by rw [b3, e3.n]; omega) ha5)
  go_wp2_with fail
  refine P1.out.mono ?_
  rintro e w6 ⟨m, s4, rfl, ha6, hk6, g4, e4, r4, b4⟩
  have P2 := Lib.hid (tpair_is (w := w6) (K := K) (q := q) (p := p) (x := m) (y := k1) (L := L) g4 (by omega) r4 (r1.ext e4) (by show tx.len + u.len + v.len ≤ 1000; omega) (by rw [b4, b3, e4.n, e3.n]; omega) ha6)
  go_wp2_with fail
  refine P2.out.mono ?_
  rintro e w7 ⟨z, s5, rfl, ha7, hk7, g5, e5, r5, b5⟩
  go_wp2_with fail
  go_ret
  exact ⟨z, s5, rfl, ha7, ((((((Kept.of_below hk1 K).trans (Kept.of_below hk2 K)).trans hk3).trans (Kept.of_below hk4 K)).trans (Kept.of_below hk5 K)).trans hk6).trans hk7, g5.mono (by omega), (e3.trans e4).trans e5, r5, by rw [b5, b4, b3]; omega⟩
set_option maxHeartbeats 4000000 in
theorem tjoin_right2 {x y : Int} {tx b c v : Tr} (g : Good s B (x :: y :: L)) (hB : B ≤ 10000000) (rx : Rep s x tx) (ry : Rep s y (.join (.join b c) v)) (hl : tx.len + (b.len + c.len + v.len) ≤ 1000) (hu : (Tr.join b c).high ≤ 50) (hv : v.high ≤ 50) (hx : tx.high ≤ 100) (bX : tx.Bal) (bu : (Tr.join b c).Bal) (bv : v.Bal) (h1 : (Tr.join (.join b c) v).high = tx.high + 2) (h2 : v.high < (Tr.join b c).high) (hr : s.busy + 2 < s.n) (ha : Tre w K q p s 0) :
    Calls Try.prog 35 #[.pointer (some ⟨q, 0, none⟩), .int .i64 x, .int .i64 y] w fun e w' =>
      ∃ (z : Int) (s' : Ar), e = .returned (.int .i64 z) ∧ Tre w' K q p s' 0 ∧ Kept K w w' ∧ Good s' (B + 20) (z :: L) ∧ Ext s s' ∧ Rep s' z (.join (.join tx b) (.join c v)) ∧ s'.busy = s.busy + 3 := by
  have ej : (Tr.join (.join b c) v).high = 1 + max (Tr.join b c).high v.high := rfl
  have H1 := Lib.hid (high_is (K := K) (q := q) (p := p) (e := 0) g (by omega) tx x w (g.has rx (by simp)) (by omega) ha)
  have H2 := fun w ha => Lib.hid (high_is (K := K) (q := q) (p := p) (e := 0) g (by omega) (.join (.join b c) v) y w (g.has ry (by simp)) (by omega) ha)
  have HO := fun w ha => Lib.hid (topen_good (w := w) (K := K) (q := q) (p := p) (e := 0) g.swap (by omega) ry bu.some bv.some ha)
  have x0 := rx.pos bX.some
  have y0 := ry.1
  have gx : (x == 0) = false := by simp; omega
  have gy : (y == 0) = false := by simp; omega
  clear ha
  generalize hj : (Tr.join (.join b c) v).high = a at *
  go_enter Try.func35, Try.ntmps35
  go_wp2_with fail
  refine H1.out.mono ?_
  rintro e w1 ⟨rfl, ha1, hk1⟩
  have H3 := H2 w1 ha1
  go_wp2_with fail
  refine H3.out.mono ?_
  rintro e w2 ⟨rfl, ha2, hk2⟩
  have c1 := ha2.c1
  have H5 := HO w2 ha2
  go_wp2_with fail
  refine H5.out.mono ?_
  rintro e w3 ⟨k0, k1, s3, rfl, ha3, hk3, g3, e3, r0, r1, b3⟩
  go_wp2_with fail
  have HV := Lib.hid (high_is (K := K) (q := q) (p := p) (e := 0) g3 (by omega) v k1 w3 (g3.has r1 (by simp)) (by omega) ha3)
  refine HV.out.mono ?_
  rintro e w4 ⟨rfl, ha4, hk4⟩
  have HU := Lib.hid (high_is (K := K) (q := q) (p := p) (e := 0) g3 (by omega) (.join b c) k0 w4 (g3.has r0 (by simp)) (by omega) ha4)
  go_wp2_with fail
  refine HU.out.mono ?_
  rintro e w5 ⟨rfl, ha5, hk5⟩
  have HO2 := Lib.hid (topen_good (w := w5) (K := K) (q := q) (p := p) (e := 0) g3 (by omega) r0 bu.1.some bu.2.1.some ha5)
  go_wp2_with fail
  refine HO2.out.mono ?_
  rintro e w6 ⟨m0, m1, s4, rfl, ha6, hk6, g4, e4, q0, q1, b4⟩
  have P1 := Lib.hid (tpair_is (w := w6) (K := K) (q := q) (p := p) (x := x) (y := m0) (L := m1 :: k1 :: L) (g4.perm fun k _ => by simp only [cnt_cons]; omega) (by omega) ((rx.ext e3).ext e4) q0 (by omega) (by rw [b4, b3, e4.n, e3.n]; omega) ha6)
  go_wp2_with fail
  refine P1.out.mono ?_
  rintro e w7 ⟨z1, s5, rfl, ha7, hk7, g5, e5, r5, b5⟩
  have P2 := Lib.hid (tpair_is (w := w7) (K := K) (q := q) (p := p) (x := m1) (y := k1) (L := z1 :: L) (g5.perm fun k _ => by simp only [cnt_cons]; omega) (by omega) (q1.ext e5) ((r1.ext e4).ext e5) (by omega) (by rw [b5, b4, b3, e5.n, e4.n, e3.n]; omega) ha7)
  go_wp2_with fail
  refine P2.out.mono ?_
  rintro e w8 ⟨z2, s6, rfl, ha8, hk8, g6, e6, r6, b6⟩
  have P3 := Lib.hid (tpair_is (w := w8) (K := K) (q := q) (p := p) (x := z1) (y := z2) (L := L) g6.swap (by omega) (r5.ext e6) r6 (by show tx.len + b.len + (c.len + v.len) ≤ 1000; omega) (by rw [b6, b5, b4, b3, e6.n, e5.n, e4.n, e3.n]; omega) ha8)
  go_wp2_with fail
  refine P3.out.mono ?_
  rintro e w9 ⟨z, s7, rfl, ha9, hk9, g7, e7, r7, b7⟩
  go_wp2_with fail
  go_ret
  exact ⟨z, s7, rfl, ha9, ((((((((Kept.of_below hk1 K).trans (Kept.of_below hk2 K)).trans hk3).trans (Kept.of_below hk4 K)).trans (Kept.of_below hk5 K)).trans hk6).trans hk7).trans hk8).trans hk9, g7.mono (by omega), (((e3.trans e4).trans e5).trans e6).trans e7, r7, by rw [b7, b6, b5, b4, b3]; omega⟩
end
end Go.Proofs.Ytlnnljkifdmmlaa
