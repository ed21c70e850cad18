/- A join that is balanced, whatever happens. -/
import Derived.Test.YtcdmebjggdhhdaaM2
namespace Go.Proofs.Ytcdmebjggdhhdaa
open Go.RowKit

/-- How many nodes a join makes at most. -/
def jcost (x y : Tr) : Nat := if x.isNil = true ∨ y.isNil = true then 0 else if x.high ≤ y.high + 1 ∧ y.high ≤ x.high + 1 then 1 else 3
theorem jcost_nil_left (y : Tr) : jcost .nil y = 0 := if_pos (.inl rfl)
theorem jcost_nil_right (x : Tr) : jcost x .nil = 0 := if_pos (.inr rfl)
section
variable {K : Nat → Prop} {q p : Nat} {s : Ar} {L : List Int} {e : Int} {w : World}
theorem Rep.er {s : Ar} {z e : Int} {t : Tr} (h : Rep s z (er e t)) : ∃ t', Rep s z t' ∧ (e = 0 → t' = t) ∧ (e ≠ 0 → t' = .nil) := ⟨_, h, fun h0 => by rw [h0, er_ok], fun h0 => er_no h0 t⟩
theorem LRes.of {s s1 s2 : Ar} {e e1 e2 z1 z2 : Int} {m1 m2 : Nat} {t t' : Tr} {L L1 : List Int} {t1 : Tr} (R1 : LRes s e s1 e1 z1 m1 t1 L1) (R2 : LRes s1 e1 s2 e2 z2 m2 t' L) (ht : e1 = 0 → t' = t) : LRes s e s2 e2 z2 (m1 + m2) t L := by
  refine ⟨R1.went.trans R2.went, R2.eok, R2.gd, ?_, fun h => R2.err (R1.err h)⟩
  by_cases h2 : e2 = 0
  · have h1 : e1 = 0 := Classical.byContradiction fun h1 => R2.err h1 h2
    have := R2.rep
    rw [h2, er_ok] at this ⊢
    rw [← ht h1]
    exact this
  · have := R2.rep
    rw [er_no h2] at this ⊢
    exact this
theorem er_cost_right {l t t' : Tr} {e : Int} (h : e = 0 → t' = t) (h' : e ≠ 0 → t' = .nil) : jcost l t' ≤ jcost l t := by
  by_cases c : e = 0
  · rw [h c]; exact Nat.le_refl _
  · rw [h' c, jcost_nil_right]; exact Nat.zero_le _
theorem er_cost_left {l t t' : Tr} {e : Int} (h : e = 0 → t' = t) (h' : e ≠ 0 → t' = .nil) : jcost t' l ≤ jcost t l := by
  by_cases c : e = 0
  · rw [h c]; exact Nat.le_refl _
  · rw [h' c, jcost_nil_left]; exact Nat.zero_le _
/-- How many nodes a change makes at most, where one item's change makes m. -/
def ccost (F : Tr → Tr) (m : Nat) : Tr → Nat → Nat
  | .nil, _ => m
  | .item _ _, _ => m
  | .join l r, i => if l.len ≤ i then ccost F m r (i - l.len) + jcost l (tchange F r (i - l.len)) else ccost F m l i + jcost (tchange F l i) r
theorem LRes.after {s s1 s2 : Ar} {e e2 z2 : Int} {m1 m2 : Nat} {t : Tr} {L : List Int} (W : Went s s1 m1) (R2 : LRes s1 e s2 e2 z2 m2 t L) : LRes s e s2 e2 z2 (m1 + m2) t L := ⟨W.trans R2.went, R2.eok, R2.gd, R2.rep, R2.err⟩
theorem eok_went {s s1 : Ar} {e : Int} (h : EOk s e) (W : Went s s1 0) : EOk s1 e := by
  obtain ⟨k, k1, k2, k3⟩ := W.made
  exact h.same (by omega) W.ext.n
set_option maxHeartbeats 4000000 in
/-- Behind an error both are dropped. -/
theorem tjoin_err {x y : Int} {tx ty : Tr} (g : Gd s (x :: y :: L)) (he : EOk s e) (h0 : e ≠ 0) (hL : L.length ≤ 800000) (hm : s.made - s.busy ≤ 1000000000) (rx : Rep s x tx) (ry : Rep s y ty) (hx : tx.high ≤ 100) (hy : ty.high ≤ 100) (ha : Tre w K q p s e) :
    Calls Try.prog 36 #[.pointer (some ⟨q, 0, none⟩), .int .i64 x, .int .i64 y] w (LOut K q p s e L w (tjoin tx ty) 0) := by
  have G := g.goodb (by simp; omega) hm
  have H1 := Lib.hid (high_is (K := K) (q := q) (p := p) (e := e) G (by decide) tx x w (G.has rx (by simp)) (by omega) ha)
  have H2 := fun w ha => Lib.hid (high_is (K := K) (q := q) (p := p) (e := e) G (by decide) ty y w (G.has ry (by simp)) (by omega) ha)
  have sn : Snd s := g.snd (by simp; omega) hm
  have ge : (e == 0) = false := by simpa using h0
  have gn : (e != 0) = true := by simpa using h0
  have g1 : Gd (s.drop x).1 (y :: L) := gd_drop g rx.range.1 rx.range.2
  have g2 : Gd ((s.drop x).1.drop y).1 L := gd_drop g1 ry.range.1 (by rw [drop_n]; exact ry.range.2)
  have HD0 := fun w K (ha : Ars w K p s) => Lib.hid (drop_is x (s' := (s.drop x).1) (e := (s.drop x).2) rfl ha (snd_fit sn))
  have HD1 := fun w K (ha : Ars w K p (s.drop x).1) => Lib.hid (drop_is y (s' := ((s.drop x).1.drop y).1) (e := ((s.drop x).1.drop y).2) rfl ha ((ok_drop (show s.Ok 100000000000 from sn) x).fit (by decide)))
  have HR := Lib.hid (show LRes s e ((s.drop x).1.drop y).1 e 0 0 (tjoin tx ty) L from ⟨(went_drop s x).trans (went_drop _ y), he.same (by rw [drop_busy, drop_busy]) (by rw [drop_n, drop_n]), g2.zero, by rw [er_no h0]; rfl, fun h => h⟩)
  clear g G rx ry ha he hm hx hy h0 g1 g2 sn
  generalize tx.high = a at *
  generalize ty.high = b at *
  go_enter Try.func36, Try.ntmps36
  go_wp2_with fail
  refine H1.out.mono ?_
  rintro e1 w1 ⟨rfl, ha1, hk1⟩
  have H3 := H2 w1 ha1
  go_wp2_with fail
  refine H3.out.mono ?_
  rintro e2 w2 ⟨rfl, ha2, hk2⟩
  have c1 := ha2.c1
  have T2 := Lib.hid ha2
  have K2 := Lib.hid ((Kept.of_below hk1 K).trans (Kept.of_below hk2 K))
  have c0 := ha2.c0
  clear ha1 ha2 hk1 hk2 H1 H2 H3
  go_wp2_with fail
  refine (HD0 _ _ T2.out.ars).out.mono ?_
  rintro e3 w3 ⟨rfl, ha3, hk3⟩
  have T3 := Lib.hid (T2.out.arena ha3 hk3)
  have K3 := Lib.hid (K2.out.trans hk3.part)
  clear ha3 hk3 c0 c1 T2 K2
  have c0 := T3.out.c0
  go_wp2_with fail
  refine (HD1 _ _ T3.out.ars).out.mono ?_
  rintro e4 w4 ⟨rfl, ha4, hk4⟩
  have T4 := Lib.hid (T3.out.arena ha4 hk4)
  have K4 := Lib.hid (K3.out.trans hk4.part)
  go_wp2_with fail
  go_ret
  exact ⟨0, _, e, rfl, T4.out, K4.out, HR.out⟩
set_option maxHeartbeats 4000000 in
/-- One of the two is empty. -/
theorem tjoin_none {x y : Int} {tx ty : Tr} (g : Gd s (x :: y :: L)) (hL : L.length ≤ 800000) (hm : s.made - s.busy ≤ 1000000000) (rx : Rep s x tx) (ry : Rep s y ty) (hx : tx.high ≤ 100) (hy : ty.high ≤ 100) (hz : tx.isNil = true ∨ ty.isNil = true) (ha : Tre w K q p s 0) :
    Calls Try.prog 36 #[.pointer (some ⟨q, 0, none⟩), .int .i64 x, .int .i64 y] w (LOut K q p s 0 L w (tjoin tx ty) 0) := by
  have G := g.goodb (by simp; omega) hm
  have H1 := Lib.hid (high_is (K := K) (q := q) (p := p) (e := 0) G (by decide) tx x w (G.has rx (by simp)) (by omega) ha)
  have H2 := fun w ha => Lib.hid (high_is (K := K) (q := q) (p := p) (e := 0) G (by decide) ty y w (G.has ry (by simp)) (by omega) ha)
  have x0 := rx.range
  have y0 := ry.range
  have n6 := g.n2
  have E : (x = 0 ∧ tjoin tx ty = ty) ∨ (1 ≤ x ∧ y = 0 ∧ tjoin tx ty = tx) := by
    by_cases c : tx.isNil = true
    · cases tx with
      | nil => exact .inl ⟨rx, tjoin_nil_left ty⟩
      | item a b => cases c
      | join l r => cases c
    · have x1 := rx.pos (by simpa using c)
      rcases hz with c' | c'
      · exact absurd c' c
      · cases ty with
        | nil => exact .inr ⟨x1, ry, tjoin_nil_right tx⟩
        | item a b => cases c'
        | join l r => cases c'
  have Gx := Lib.hid g
  have Rx := Lib.hid rx
  have Ry := Lib.hid ry
  clear g G rx ry ha hz hm hx hy
  rcases E with ⟨rfl, e0⟩ | ⟨x1, rfl, e0⟩
  · rw [e0]
    clear e0
    go_enter Try.func36, Try.ntmps36
    go_wp2_with fail
    refine H1.out.mono ?_
    rintro e1 w1 ⟨rfl, ha1, hk1⟩
    have H3 := H2 w1 ha1
    go_wp2_with fail
    refine H3.out.mono ?_
    rintro e2 w2 ⟨rfl, ha2, hk2⟩
    have c1 := ha2.c1
    go_wp2_with fail
    go_ret
    exact ⟨y, s, 0, by go_num, ha2, (Kept.of_below hk1 K).trans (Kept.of_below hk2 K), Went.refl s, .inl rfl, Gx.out.unzero, by rw [er_ok]; exact Ry.out, fun h => h⟩
  · rw [e0]
    clear e0
    have g0 : (x == 0) = false := by simp; omega
    go_enter Try.func36, Try.ntmps36
    go_wp2_with fail
    refine H1.out.mono ?_
    rintro e1 w1 ⟨rfl, ha1, hk1⟩
    have H3 := H2 w1 ha1
    go_wp2_with fail
    refine H3.out.mono ?_
    rintro e2 w2 ⟨rfl, ha2, hk2⟩
    have c1 := ha2.c1
    go_wp2_with fail
    go_ret
    exact ⟨x, s, 0, by go_num, ha2, (Kept.of_below hk1 K).trans (Kept.of_below hk2 K), Went.refl s, .inl rfl, Gx.out.perm (fun k _ => by simp only [cnt_cons]; rw [if_neg (show ¬ (0 : Int) = (k : Int) by omega)]; omega), by rw [er_ok]; exact Rx.out, fun h => h⟩
set_option maxHeartbeats 4000000 in
/-- The two are about as high. -/
theorem tjoin_flat {x y : Int} {tx ty : Tr} (g : Gd s (x :: y :: L)) (hL : L.length ≤ 800000) (hm : s.made - s.busy ≤ 1000000000) (rx : Rep s x tx) (ry : Rep s y ty) (hl : tx.len + ty.len ≤ 100000) (hx : tx.high ≤ 100) (hy : ty.high ≤ 100) (bx : tx.Bal) (bY : ty.Bal) (h1 : tx.high ≤ ty.high + 1) (h2 : ty.high ≤ tx.high + 1) (ha : Tre w K q p s 0) :
    Calls Try.prog 36 #[.pointer (some ⟨q, 0, none⟩), .int .i64 x, .int .i64 y] w (LOut K q p s 0 L w (tjoin tx ty) 1) := by
  have G := g.goodb (by simp; omega) hm
  have H1 := Lib.hid (high_is (K := K) (q := q) (p := p) (e := 0) G (by decide) tx x w (G.has rx (by simp)) (by omega) ha)
  have H2 := fun w ha => Lib.hid (high_is (K := K) (q := q) (p := p) (e := 0) G (by decide) ty y w (G.has ry (by simp)) (by omega) ha)
  have H4 := fun w ha => Lib.hid (tpair_gen (w := w) (K := K) (q := q) (p := p) g (.inl rfl) (by omega) hm rx ry hl ha)
  have x0 := rx.pos bx.some
  have y0 := ry.pos bY.some
  have gx : (x == 0) = false := by simp; omega
  have gy : (y == 0) = false := by simp; omega
  rw [tjoin_even bx bY h1 h2]
  clear g G rx ry ha hm hl bx bY
  generalize tx.high = a at *
  generalize ty.high = b at *
  go_enter Try.func36, Try.ntmps36
  go_wp2_with fail
  refine H1.out.mono ?_
  rintro e1 w1 ⟨rfl, ha1, hk1⟩
  have H3 := H2 w1 ha1
  go_wp2_with fail
  refine H3.out.mono ?_
  rintro e2 w2 ⟨rfl, ha2, hk2⟩
  have c1 := ha2.c1
  have H5 := H4 w2 ha2
  go_wp2_with fail
  refine H5.out.mono ?_
  rintro e3 w3 ⟨z, s', e', rfl, ha3, hk3, R⟩
  go_wp2_with fail
  go_ret
  exact ⟨z, s', e', rfl, ha3, ((Kept.of_below hk1 K).trans (Kept.of_below hk2 K)).trans hk3, R⟩
set_option maxHeartbeats 4000000 in
theorem tjoin_left1 {x y : Int} {u v ty : Tr} (g : Gd s (x :: y :: L)) (hL : L.length ≤ 800000) (hm : s.made - s.busy ≤ 1000000000) (rx : Rep s x (.join u v)) (ry : Rep s y ty) (hl : u.len + v.len + ty.len ≤ 100000) (hu : u.high ≤ 50) (hv : v.high ≤ 50) (hy : ty.high ≤ 100) (bu : u.Bal) (bv : v.Bal) (bY : ty.Bal) (h1 : (Tr.join u v).high = ty.high + 2) (h2 : v.high ≤ u.high) (ha : Tre w K q p s 0) :
    Calls Try.prog 36 #[.pointer (some ⟨q, 0, none⟩), .int .i64 x, .int .i64 y] w (LOut K q p s 0 L w (.join u (.join v ty)) 2) := by
  have ej : (Tr.join u v).high = 1 + max u.high v.high := rfl
  have G := g.goodb (by simp; omega) hm
  have H1 := Lib.hid (high_is (K := K) (q := q) (p := p) (e := 0) G (by decide) (.join u v) x w (G.has rx (by simp)) (by omega) ha)
  have H2 := fun w ha => Lib.hid (high_is (K := K) (q := q) (p := p) (e := 0) G (by decide) ty y w (G.has ry (by simp)) (by omega) ha)
  have HO := fun w ha => Lib.hid (topen_gen (w := w) (K := K) (q := q) (p := p) (e := 0) g (by simp; omega) hm rx bu.some bv.some ha)
  have x0 := rx.1
  have y0 := ry.pos bY.some
  have gx : (x == 0) = false := by simp; omega
  have gy : (y == 0) = false := by simp; omega
  clear ha G
  generalize hj : (Tr.join u v).high = a at *
  go_enter Try.func36, Try.ntmps36
  go_wp2_with fail
  refine H1.out.mono ?_
  rintro e1 w1 ⟨rfl, ha1, hk1⟩
  have H3 := H2 w1 ha1
  go_wp2_with fail
  refine H3.out.mono ?_
  rintro e2 w2 ⟨rfl, ha2, hk2⟩
  have c1 := ha2.c1
  have H5 := HO w2 ha2
  go_wp2_with fail
  refine H5.out.mono ?_
  rintro e3 w3 ⟨k0, k1, s3, rfl, ha3, hk3, g3, W3, r0, r1⟩
  have m3 := W3.md
  have G3 := g3.goodb (by simp; omega) (by omega)
  go_wp2_with fail
  have HU := Lib.hid (high_is (K := K) (q := q) (p := p) (e := 0) G3 (by decide) u k0 w3 (G3.has r0 (by simp)) (by omega) ha3)
  refine HU.out.mono ?_
  rintro e4 w4 ⟨rfl, ha4, hk4⟩
  have HV := Lib.hid (high_is (K := K) (q := q) (p := p) (e := 0) G3 (by decide) v k1 w4 (G3.has r1 (by simp)) (by omega) ha4)
  go_wp2_with fail
  refine HV.out.mono ?_
  rintro e5 w5 ⟨rfl, ha5, hk5⟩
  have P1 := Lib.hid (tpair_gen (w := w5) (K := K) (q := q) (p := p) (x := k1) (y := y) (L := k0 :: L) (g3.perm fun k _ => by simp only [cnt_cons]; omega) (.inl rfl) (by simp; omega) (by omega) r1 (ry.ext W3.ext) (by omega) ha5)
  go_wp2_with fail
  refine P1.out.mono ?_
  rintro e6 w6 ⟨m, s4, e4', rfl, ha6, hk6, R4⟩
  have m4 := R4.went.md
  obtain ⟨t4, q4, o4, n4⟩ := R4.rep.er
  have l4 : t4.len ≤ v.len + ty.len := by
    by_cases c : e4' = 0
    · rw [o4 c]; exact Nat.le_refl _
    · rw [n4 c]; exact Nat.zero_le _
  have P2 := Lib.hid (tpair_gen (w := w6) (K := K) (q := q) (p := p) (x := k0) (y := m) (L := L) R4.gd.swap R4.eok (by omega) (by omega) (r0.ext R4.went.ext) q4 (by omega) ha6)
  go_wp2_with fail
  refine P2.out.mono ?_
  rintro e7 w7 ⟨z, s5, e5', rfl, ha7, hk7, R5⟩
  go_wp2_with fail
  go_ret
  refine ⟨z, s5, e5', rfl, ha7, ((((((Kept.of_below hk1 K).trans (Kept.of_below hk2 K)).trans hk3).trans (Kept.of_below hk4 K)).trans (Kept.of_below hk5 K)).trans hk6).trans hk7, ?_⟩
  exact (LRes.after W3 (R4.of R5 fun c => by rw [o4 c])).mono (by omega)
set_option maxHeartbeats 4000000 in
theorem tjoin_left2 {x y : Int} {u b c ty : Tr} (g : Gd s (x :: y :: L)) (hL : L.length ≤ 800000) (hm : s.made - s.busy ≤ 1000000000) (rx : Rep s x (.join u (.join b c))) (ry : Rep s y ty) (hl : u.len + (b.len + c.len) + ty.len ≤ 100000) (hu : u.high ≤ 50) (hv : (Tr.join b c).high ≤ 50) (hy : ty.high ≤ 100) (bu : u.Bal) (bv : (Tr.join b c).Bal) (bY : ty.Bal) (h1 : (Tr.join u (.join b c)).high = ty.high + 2) (h2 : u.high < (Tr.join b c).high) (ha : Tre w K q p s 0) :
    Calls Try.prog 36 #[.pointer (some ⟨q, 0, none⟩), .int .i64 x, .int .i64 y] w (LOut K q p s 0 L w (.join (.join u b) (.join c ty)) 3) := by
  have ej : (Tr.join u (.join b c)).high = 1 + max u.high (Tr.join b c).high := rfl
  have G := g.goodb (by simp; omega) hm
  have H1 := Lib.hid (high_is (K := K) (q := q) (p := p) (e := 0) G (by decide) (.join u (.join b c)) x w (G.has rx (by simp)) (by omega) ha)
  have H2 := fun w ha => Lib.hid (high_is (K := K) (q := q) (p := p) (e := 0) G (by decide) ty y w (G.has ry (by simp)) (by omega) ha)
  have HO := fun w ha => Lib.hid (topen_gen (w := w) (K := K) (q := q) (p := p) (e := 0) g (by simp; omega) hm rx bu.some bv.some ha)
  have x0 := rx.1
  have y0 := ry.pos bY.some
  have gx : (x == 0) = false := by simp; omega
  have gy : (y == 0) = false := by simp; omega
  clear ha G
  generalize hj : (Tr.join u (.join b c)).high = a at *
  go_enter Try.func36, Try.ntmps36
  go_wp2_with fail
  refine H1.out.mono ?_
  rintro e1 w1 ⟨rfl, ha1, hk1⟩
  have H3 := H2 w1 ha1
  go_wp2_with fail
  refine H3.out.mono ?_
  rintro e2 w2 ⟨rfl, ha2, hk2⟩
  have c1 := ha2.c1
  have H5 := HO w2 ha2
  go_wp2_with fail
  refine H5.out.mono ?_
  rintro e3 w3 ⟨k0, k1, s3, rfl, ha3, hk3, g3, W3, r0, r1⟩
  have m3 := W3.md
  have G3 := g3.goodb (by simp; omega) (by omega)
  go_wp2_with fail
  have HU := Lib.hid (high_is (K := K) (q := q) (p := p) (e := 0) G3 (by decide) u k0 w3 (G3.has r0 (by simp)) (by omega) ha3)
  refine HU.out.mono ?_
  rintro e4 w4 ⟨rfl, ha4, hk4⟩
  have HV := Lib.hid (high_is (K := K) (q := q) (p := p) (e := 0) G3 (by decide) (.join b c) k1 w4 (G3.has r1 (by simp)) (by omega) ha4)
  go_wp2_with fail
  refine HV.out.mono ?_
  rintro e5 w5 ⟨rfl, ha5, hk5⟩
  have HO2 := Lib.hid (topen_gen (w := w5) (K := K) (q := q) (p := p) (e := 0) (L := k0 :: y :: L) g3.swap (by simp; omega) (by omega) r1 bv.1.some bv.2.1.some ha5)
  go_wp2_with fail
  refine HO2.out.mono ?_
  rintro e6 w6 ⟨m0, m1, s4, rfl, ha6, hk6, g4, W4, q0, q1⟩
  have m4 := W4.md
  have P1 := Lib.hid (tpair_gen (w := w6) (K := K) (q := q) (p := p) (x := k0) (y := m0) (L := m1 :: y :: L) (g4.perm fun k _ => by simp only [cnt_cons]; omega) (.inl rfl) (by simp; omega) (by omega) (r0.ext W4.ext) q0 (by omega) ha6)
  go_wp2_with fail
  refine P1.out.mono ?_
  rintro e7 w7 ⟨z1, s5, e5', rfl, ha7, hk7, R5⟩
  have m5 := R5.went.md
  obtain ⟨t5, q5, o5, n5⟩ := R5.rep.er
  have l5 : t5.len ≤ u.len + b.len := by
    by_cases c : e5' = 0
    · rw [o5 c]; exact Nat.le_refl _
    · rw [n5 c]; exact Nat.zero_le _
  have P2 := Lib.hid (tpair_gen (w := w7) (K := K) (q := q) (p := p) (x := m1) (y := y) (L := z1 :: L) (R5.gd.perm fun k _ => by simp only [cnt_cons]; omega) R5.eok (by simp; omega) (by omega) (q1.ext R5.went.ext) (((ry.ext W3.ext).ext W4.ext).ext R5.went.ext) (by omega) ha7)
  go_wp2_with fail
  refine P2.out.mono ?_
  rintro e8 w8 ⟨z2, s6, e6', rfl, ha8, hk8, R6⟩
  have m6 := R6.went.md
  obtain ⟨t6, q6, o6, n6⟩ := R6.rep.er
  have l6 : t6.len ≤ c.len + ty.len := by
    by_cases c : e6' = 0
    · rw [o6 c]; exact Nat.le_refl _
    · rw [n6 c]; exact Nat.zero_le _
  have P3 := Lib.hid (tpair_gen (w := w8) (K := K) (q := q) (p := p) (x := z1) (y := z2) (L := L) R6.gd.swap R6.eok (by omega) (by omega) (q5.ext R6.went.ext) q6 (by omega) ha8)
  go_wp2_with fail
  refine P3.out.mono ?_
  rintro e9 w9 ⟨z, s7, e7', rfl, ha9, hk9, R7⟩
  go_wp2_with fail
  go_ret
  refine ⟨z, s7, e7', rfl, ha9, ((((((((Kept.of_below hk1 K).trans (Kept.of_below hk2 K)).trans hk3).trans (Kept.of_below hk4 K)).trans (Kept.of_below hk5 K)).trans hk6).trans hk7).trans hk8).trans hk9, ?_⟩
  have R67 := R6.of R7 (t := .join (.join u b) (.join c ty)) fun c => by
    have c5 : e5' = 0 := Classical.byContradiction fun h => R6.err h c
    rw [o6 c, o5 c5]
  exact (LRes.after W3 (LRes.after W4 (R5.of R67 fun _ => rfl))).mono (by omega)
set_option maxHeartbeats 4000000 in
theorem tjoin_right1 {x y : Int} {tx u v : Tr} (g : Gd s (x :: y :: L)) (hL : L.length ≤ 800000) (hm : s.made - s.busy ≤ 1000000000) (rx : Rep s x tx) (ry : Rep s y (.join u v)) (hl : tx.len + (u.len + v.len) ≤ 100000) (hu : u.high ≤ 50) (hv : v.high ≤ 50) (hx : tx.high ≤ 100) (bX : tx.Bal) (bu : u.Bal) (bv : v.Bal) (h1 : (Tr.join u v).high = tx.high + 2) (h2 : u.high ≤ v.high) (ha : Tre w K q p s 0) :
    Calls Try.prog 36 #[.pointer (some ⟨q, 0, none⟩), .int .i64 x, .int .i64 y] w (LOut K q p s 0 L w (.join (.join tx u) v) 2) := by
  have ej : (Tr.join u v).high = 1 + max u.high v.high := rfl
  have G := g.goodb (by simp; omega) hm
  have H1 := Lib.hid (high_is (K := K) (q := q) (p := p) (e := 0) G (by decide) tx x w (G.has rx (by simp)) (by omega) ha)
  have H2 := fun w ha => Lib.hid (high_is (K := K) (q := q) (p := p) (e := 0) G (by decide) (.join u v) y w (G.has ry (by simp)) (by omega) ha)
  have HO := fun w ha => Lib.hid (topen_gen (w := w) (K := K) (q := q) (p := p) (e := 0) (L := x :: L) g.swap (by simp; omega) hm ry bu.some bv.some ha)
  have x0 := rx.pos bX.some
  have y0 := ry.1
  have gx : (x == 0) = false := by simp; omega
  have gy : (y == 0) = false := by simp; omega
  clear ha G
  generalize hj : (Tr.join u v).high = a at *
  go_enter Try.func36, Try.ntmps36
  go_wp2_with fail
  refine H1.out.mono ?_
  rintro e1 w1 ⟨rfl, ha1, hk1⟩
  have H3 := H2 w1 ha1
  go_wp2_with fail
  refine H3.out.mono ?_
  rintro e2 w2 ⟨rfl, ha2, hk2⟩
  have c1 := ha2.c1
  have H5 := HO w2 ha2
  go_wp2_with fail
  refine H5.out.mono ?_
  rintro e3 w3 ⟨k0, k1, s3, rfl, ha3, hk3, g3, W3, r0, r1⟩
  have m3 := W3.md
  have G3 := g3.goodb (by simp; omega) (by omega)
  go_wp2_with fail
  have HV := Lib.hid (high_is (K := K) (q := q) (p := p) (e := 0) G3 (by decide) v k1 w3 (G3.has r1 (by simp)) (by omega) ha3)
  refine HV.out.mono ?_
  rintro e4 w4 ⟨rfl, ha4, hk4⟩
  have HU := Lib.hid (high_is (K := K) (q := q) (p := p) (e := 0) G3 (by decide) u k0 w4 (G3.has r0 (by simp)) (by omega) ha4)
  go_wp2_with fail
  refine HU.out.mono ?_
  rintro e5 w5 ⟨rfl, ha5, hk5⟩
  have P1 := Lib.hid (tpair_gen (w := w5) (K := K) (q := q) (p := p) (x := x) (y := k0) (L := k1 :: L) (g3.perm fun k _ => by simp only [cnt_cons]; omega) (.inl rfl) (by simp; omega) (by omega) (rx.ext W3.ext) r0 (by omega) ha5)
  go_wp2_with fail
  refine P1.out.mono ?_
  rintro e6 w6 ⟨m, s4, e4', rfl, ha6, hk6, R4⟩
  have m4 := R4.went.md
  obtain ⟨t4, q4, o4, n4⟩ := R4.rep.er
  have l4 : t4.len ≤ tx.len + u.len := by
    by_cases c : e4' = 0
    · rw [o4 c]; exact Nat.le_refl _
    · rw [n4 c]; exact Nat.zero_le _
  have P2 := Lib.hid (tpair_gen (w := w6) (K := K) (q := q) (p := p) (x := m) (y := k1) (L := L) R4.gd R4.eok (by omega) (by omega) q4 (r1.ext R4.went.ext) (by omega) ha6)
  go_wp2_with fail
  refine P2.out.mono ?_
  rintro e7 w7 ⟨z, s5, e5', rfl, ha7, hk7, R5⟩
  go_wp2_with fail
  go_ret
  refine ⟨z, s5, e5', rfl, ha7, ((((((Kept.of_below hk1 K).trans (Kept.of_below hk2 K)).trans hk3).trans (Kept.of_below hk4 K)).trans (Kept.of_below hk5 K)).trans hk6).trans hk7, ?_⟩
  exact (LRes.after W3 (R4.of R5 fun c => by rw [o4 c])).mono (by omega)
set_option maxHeartbeats 4000000 in
theorem tjoin_right2 {x y : Int} {tx b c v : Tr} (g : Gd s (x :: y :: L)) (hL : L.length ≤ 800000) (hm : s.made - s.busy ≤ 1000000000) (rx : Rep s x tx) (ry : Rep s y (.join (.join b c) v)) (hl : tx.len + (b.len + c.len + v.len) ≤ 100000) (hu : (Tr.join b c).high ≤ 50) (hv : v.high ≤ 50) (hx : tx.high ≤ 100) (bX : tx.Bal) (bu : (Tr.join b c).Bal) (bv : v.Bal) (h1 : (Tr.join (.join b c) v).high = tx.high + 2) (h2 : v.high < (Tr.join b c).high) (ha : Tre w K q p s 0) :
    Calls Try.prog 36 #[.pointer (some ⟨q, 0, none⟩), .int .i64 x, .int .i64 y] w (LOut K q p s 0 L w (.join (.join tx b) (.join c v)) 3) := by
  have ej : (Tr.join (.join b c) v).high = 1 + max (Tr.join b c).high v.high := rfl
  have G := g.goodb (by simp; omega) hm
  have H1 := Lib.hid (high_is (K := K) (q := q) (p := p) (e := 0) G (by decide) tx x w (G.has rx (by simp)) (by omega) ha)
  have H2 := fun w ha => Lib.hid (high_is (K := K) (q := q) (p := p) (e := 0) G (by decide) (.join (.join b c) v) y w (G.has ry (by simp)) (by omega) ha)
  have HO := fun w ha => Lib.hid (topen_gen (w := w) (K := K) (q := q) (p := p) (e := 0) (L := x :: L) g.swap (by simp; omega) hm ry bu.some bv.some ha)
  have x0 := rx.pos bX.some
  have y0 := ry.1
  have gx : (x == 0) = false := by simp; omega
  have gy : (y == 0) = false := by simp; omega
  clear ha G
  generalize hj : (Tr.join (.join b c) v).high = a at *
  go_enter Try.func36, Try.ntmps36
  go_wp2_with fail
  refine H1.out.mono ?_
  rintro e1 w1 ⟨rfl, ha1, hk1⟩
  have H3 := H2 w1 ha1
  go_wp2_with fail
  refine H3.out.mono ?_
  rintro e2 w2 ⟨rfl, ha2, hk2⟩
  have c1 := ha2.c1
  have H5 := HO w2 ha2
  go_wp2_with fail
  refine H5.out.mono ?_
  rintro e3 w3 ⟨k0, k1, s3, rfl, ha3, hk3, g3, W3, r0, r1⟩
  have m3 := W3.md
  have G3 := g3.goodb (by simp; omega) (by omega)
  go_wp2_with fail
  have HV := Lib.hid (high_is (K := K) (q := q) (p := p) (e := 0) G3 (by decide) v k1 w3 (G3.has r1 (by simp)) (by omega) ha3)
  refine HV.out.mono ?_
  rintro e4 w4 ⟨rfl, ha4, hk4⟩
  have HU := Lib.hid (high_is (K := K) (q := q) (p := p) (e := 0) G3 (by decide) (.join b c) k0 w4 (G3.has r0 (by simp)) (by omega) ha4)
  go_wp2_with fail
  refine HU.out.mono ?_
  rintro e5 w5 ⟨rfl, ha5, hk5⟩
  have HO2 := Lib.hid (topen_gen (w := w5) (K := K) (q := q) (p := p) (e := 0) (L := k1 :: x :: L) g3 (by simp; omega) (by omega) r0 bu.1.some bu.2.1.some ha5)
  go_wp2_with fail
  refine HO2.out.mono ?_
  rintro e6 w6 ⟨m0, m1, s4, rfl, ha6, hk6, g4, W4, q0, q1⟩
  have m4 := W4.md
  have P1 := Lib.hid (tpair_gen (w := w6) (K := K) (q := q) (p := p) (x := x) (y := m0) (L := m1 :: k1 :: L) (g4.perm fun k _ => by simp only [cnt_cons]; omega) (.inl rfl) (by simp; omega) (by omega) ((rx.ext W3.ext).ext W4.ext) q0 (by omega) ha6)
  go_wp2_with fail
  refine P1.out.mono ?_
  rintro e7 w7 ⟨z1, s5, e5', rfl, ha7, hk7, R5⟩
  have m5 := R5.went.md
  obtain ⟨t5, q5, o5, n5⟩ := R5.rep.er
  have l5 : t5.len ≤ tx.len + b.len := by
    by_cases c : e5' = 0
    · rw [o5 c]; exact Nat.le_refl _
    · rw [n5 c]; exact Nat.zero_le _
  have P2 := Lib.hid (tpair_gen (w := w7) (K := K) (q := q) (p := p) (x := m1) (y := k1) (L := z1 :: L) (R5.gd.perm fun k _ => by simp only [cnt_cons]; omega) R5.eok (by simp; omega) (by omega) (q1.ext R5.went.ext) ((r1.ext W4.ext).ext R5.went.ext) (by omega) ha7)
  go_wp2_with fail
  refine P2.out.mono ?_
  rintro e8 w8 ⟨z2, s6, e6', rfl, ha8, hk8, R6⟩
  have m6 := R6.went.md
  obtain ⟨t6, q6, o6, n6⟩ := R6.rep.er
  have l6 : t6.len ≤ c.len + v.len := by
    by_cases c : e6' = 0
    · rw [o6 c]; exact Nat.le_refl _
    · rw [n6 c]; exact Nat.zero_le _
  have P3 := Lib.hid (tpair_gen (w := w8) (K := K) (q := q) (p := p) (x := z1) (y := z2) (L := L) R6.gd.swap R6.eok (by omega) (by omega) (q5.ext R6.went.ext) q6 (by omega) ha8)
  go_wp2_with fail
  refine P3.out.mono ?_
  rintro e9 w9 ⟨z, s7, e7', rfl, ha9, hk9, R7⟩
  go_wp2_with fail
  go_ret
  refine ⟨z, s7, e7', rfl, ha9, ((((((((Kept.of_below hk1 K).trans (Kept.of_below hk2 K)).trans hk3).trans (Kept.of_below hk4 K)).trans (Kept.of_below hk5 K)).trans hk6).trans hk7).trans hk8).trans hk9, ?_⟩
  have R67 := R6.of R7 (t := .join (.join tx b) (.join c v)) fun c => by
    have c5 : e5' = 0 := Classical.byContradiction fun h => R6.err h c
    rw [o6 c, o5 c5]
  exact (LRes.after W3 (LRes.after W4 (R5.of R67 fun _ => rfl))).mono (by omega)
/-- Join, whatever the two are. -/
theorem tjoin_gen {x y : Int} {tx ty : Tr} (g : Gd s (x :: y :: L)) (he : EOk s e) (hL : L.length ≤ 800000) (hm : s.made - s.busy ≤ 1000000000) (rx : Rep s x tx) (ry : Rep s y ty) (hl : tx.len + ty.len ≤ 100000) (hx : tx.high ≤ 50) (hy : ty.high ≤ 50) (fx : tx.Fine) (fy : ty.Fine)
    (h1 : e = 0 → tx.Bal → ty.Bal → tx.high ≤ ty.high + 2 ∧ ty.high ≤ tx.high + 2) (ha : Tre w K q p s e) :
    Calls Try.prog 36 #[.pointer (some ⟨q, 0, none⟩), .int .i64 x, .int .i64 y] w (LOut K q p s e L w (tjoin tx ty) (jcost tx ty)) := by
  by_cases e0 : e = 0
  · subst e0
    have up : ∀ {m : Nat} {t : Tr} {o : Ending} {w' : World}, m ≤ jcost tx ty → LOut K q p s 0 L w t m o w' → LOut K q p s 0 L w t (jcost tx ty) o w' := fun {m t o w'} hm h => by
      obtain ⟨z, s', e', a, b, c, R⟩ := h
      exact ⟨z, s', e', a, b, c, R.mono hm⟩
    by_cases hz : tx.isNil = true ∨ ty.isNil = true
    · exact (tjoin_none g hL hm rx ry (by omega) (by omega) hz ha).mono fun _ _ => up (Nat.zero_le _)
    · have bx : tx.Bal := by
        rcases fx with rfl | f
        · exact absurd (.inl rfl) hz
        · exact f
      have bY : ty.Bal := by
        rcases fy with rfl | f
        · exact absurd (.inr rfl) hz
        · exact f
      obtain ⟨d1, d2⟩ := h1 rfl bx bY
      by_cases a : tx.high ≤ ty.high + 1
      · by_cases b : ty.high ≤ tx.high + 1
        · exact (tjoin_flat g hL hm rx ry hl (by omega) (by omega) bx bY a b ha).mono fun _ _ => up (by unfold jcost; rw [if_neg hz, if_pos ⟨a, b⟩]; exact Nat.le_refl _)
        · have jc : jcost tx ty = 3 := by unfold jcost; rw [if_neg hz, if_neg (fun h => b h.2)]
          rcases tjoin_right bx bY (by omega) with ⟨u, v, rfl, g', e⟩ | ⟨b', c, v, rfl, g', e⟩
          · have ej : (Tr.join u v).high = 1 + max u.high v.high := rfl
            rw [e]
            exact (tjoin_right1 g hL hm rx ry hl (by omega) (by omega) (by omega) bx bY.1 bY.2.1 (by omega) g' ha).mono fun _ _ => up (by omega)
          · have ej : (Tr.join (.join b' c) v).high = 1 + max (Tr.join b' c).high v.high := rfl
            rw [e]
            exact (tjoin_right2 g hL hm rx ry hl (by omega) (by omega) (by omega) bx bY.1 bY.2.1 (by omega) g' ha).mono fun _ _ => up (by omega)
      · have jc : jcost tx ty = 3 := by unfold jcost; rw [if_neg hz, if_neg (fun h => a h.1)]
        rcases tjoin_left bx bY (by omega) with ⟨u, v, rfl, g', e⟩ | ⟨u, b', c, rfl, g', e⟩
        · have ej : (Tr.join u v).high = 1 + max u.high v.high := rfl
          rw [e]
          exact (tjoin_left1 g hL hm rx ry hl (by omega) (by omega) (by omega) bx.1 bx.2.1 bY (by omega) g' ha).mono fun _ _ => up (by omega)
        · have ej : (Tr.join u (.join b' c)).high = 1 + max u.high (Tr.join b' c).high := rfl
          rw [e]
          exact (tjoin_left2 g hL hm rx ry hl (by omega) (by omega) (by omega) bx.1 bx.2.1 bY (by omega) g' ha).mono fun _ _ => up (by omega)
  · refine (tjoin_err g he e0 hL hm rx ry (by omega) (by omega) ha).mono ?_
    rintro o w' ⟨z, s', e', a, b, c, R⟩
    exact ⟨z, s', e', a, b, c, R.mono (Nat.zero_le _)⟩
end
end Go.Proofs.Ytcdmebjggdhhdaa
