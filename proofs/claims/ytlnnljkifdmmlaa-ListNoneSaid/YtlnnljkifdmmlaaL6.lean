/- A list of one; a join as it is. -/
import Derived.Test.YtlnnljkifdmmlaaL5
namespace Go.Proofs.Ytlnnljkifdmmlaa
open Go.RowKit

section
variable {K : Nat → Prop} {q p : Nat} {s s' s1 s2 s3 : Ar} {B : Int} {L : List Int} {e : Int} {w : World}
/-- A node is made of kids that are handed over. -/
theorem tnode_good {x : Nd} (g : Good s B (x.k0 :: x.k1 :: L)) (hB : B ≤ 100000000) (ht : 1 ≤ x.tag ∧ x.tag ≤ 6) (h2 : x.k2 = 0) (h3 : x.k3 = 0) (r0 : 0 ≤ x.k0 ∧ x.k0 ≤ s.n) (r1 : 0 ≤ x.k1 ∧ x.k1 ≤ s.n) (hr : s.busy < s.n) (ha : Tre w K q p s 0) :
    Calls Try.prog 43 #[.pointer (some ⟨q, 0, none⟩), .agg #[.int .i64 x.tag, .int .i64 x.k0, .int .i64 x.k1, .int .i64 x.k2, .int .i64 x.k3, .int .u64 x.A, .int .u64 x.B]] w fun r w' =>
      ∃ (h : Nat) (s' : Ar), r = .returned (.int .i64 h) ∧ Tre w' K q p s' 0 ∧ Kept K w w' ∧ Good s' (B + 4) ((h : Int) :: L) ∧ Ext s s' ∧ 1 ≤ h ∧ h ≤ s.n ∧ s'.u h = true ∧ s'.nd h = x ∧ s'.busy = s.busy + 1 := by
  have hlive : ∀ y, y ∈ x.kids → y = 0 ∨ s.count y ≠ 0 := by
    intro y hy
    unfold Nd.kids at hy
    rw [h2, h3] at hy
    simp only [List.mem_cons, List.not_mem_nil, or_false] at hy
    by_cases e : y = 0
    · exact .inl e
    · right
      rcases hy with rfl | rfl | rfl | rfl
      · exact g.live (by omega) r0.2 (by simp)
      · exact g.live (by omega) r1.2 (by simp)
      · exact absurd rfl e
      · exact absurd rfl e
  obtain ⟨h, hm, g1, e1, b1, b2, u1, n1, y1⟩ := good_make g ht hlive hr
  have e2 := ext_drop (s.put h x) x.k0
  have e3 := ext_drop ((s.put h x).drop x.k0).1 x.k1
  have g2 : Good ((s.put h x).drop x.k0).1 (B + 4) ((h : Int) :: x.k1 :: L) := by
    refine good_drop (i := x.k0) (g1.perm fun k _ => ?_) r0.1 (by rw [e1.n]; exact r0.2)
    simp only [cnt_cons]; omega
  have g3 : Good (((s.put h x).drop x.k0).1.drop x.k1).1 (B + 4) ((h : Int) :: L) := by
    refine good_drop (i := x.k1) (g2.perm fun k _ => ?_) r1.1 (by rw [e2.n, e1.n]; exact r1.2)
    simp only [cnt_cons]; omega
  refine (tnode_is (s2 := ((s.put h x).drop x.k0).1) (s3 := (((s.put h x).drop x.k0).1.drop x.k1).1) (e0 := ((s.put h x).drop x.k0).2) (e1 := (((s.put h x).drop x.k0).1.drop x.k1).2) x hm rfl rfl g.ok (by omega) (g1.ok.fit (by omega)) (g2.ok.fit (by omega)) ha).mono ?_
  rintro r w' ⟨rfl, ht, hk⟩
  refine ⟨h, (((s.put h x).drop x.k0).1.drop x.k1).1, rfl, ht, hk, g3, (e1.trans e2).trans e3, b1, b2, ?_, ?_, ?_⟩
  · exact e3.u _ (e2.u _ u1)
  · rw [e3.nd _ (e2.u _ u1), e2.nd _ u1, n1]
  · rw [drop_busy, drop_busy, y1]
theorem wrap_u64 {x : Int} (h : 0 ≤ x) (h' : x < 18446744073709551616) : IntKind.u64.wrap x = x := IntWalk.u64_in x ⟨h, by omega⟩
theorem drop_fst (s : Ar) (i : Int) : s.drop i = ((s.drop i).1, (s.drop i).2) := rfl
set_option maxHeartbeats 1000000 in
theorem titem_is {a b : Int} (g : Good s B L) (hB : B ≤ 100000000) (ra : 0 ≤ a ∧ a ≤ 9223372036854775807) (rb : 0 ≤ b ∧ b ≤ 9223372036854775807) (hr : s.busy < s.n) (ha : Tre w K q p s 0) :
    Calls Try.prog 34 #[.pointer (some ⟨q, 0, none⟩), .agg #[.int .i64 a, .int .i64 b]] w fun r w' =>
      ∃ (h : Int) (s' : Ar), r = .returned (.int .i64 h) ∧ Tre w' K q p s' 0 ∧ Kept K w w' ∧ Good s' (B + 4) (h :: L) ∧ Ext s s' ∧ Rep s' h (.item a b) ∧ s'.busy = s.busy + 1 := by
  have H := fun w ha => Lib.hid (tnode_good (w := w) (K := K) (q := q) (p := p) (x := ⟨4, 0, 0, 0, 0, a, b⟩) (g.zero.zero) hB (by show 1 ≤ (4 : Int) ∧ (4 : Int) ≤ 6; omega) rfl rfl (by show 0 ≤ (0 : Int) ∧ (0 : Int) ≤ s.n; omega) (by show 0 ≤ (0 : Int) ∧ (0 : Int) ≤ s.n; omega) hr ha)
  have Ha := Lib.hid ha
  clear ha g hr hB
  go_enter Try.func34, Try.ntmps34
  go_wp2_with fail
  refine (H _ (Ha.out.alloc _)).out.mono ?_
  rintro e w1 ⟨h, s', rfl, ha, hk, g, ext, b1, b2, u1, n1, y1⟩
  go_wp2_with fail
  go_ret
  exact ⟨h, s', rfl, ha, ((Kept.refl K w).alloc _).trans hk, g, ext, ⟨by omega, by rw [ext.n]; omega, u1, n1⟩, y1⟩
set_option maxHeartbeats 4000000 in
theorem tpair_is {x y : Int} {l r : Tr} (g : Good s B (x :: y :: L)) (hB : B ≤ 100000000) (rx : Rep s x l) (ry : Rep s y r) (hl : l.len + r.len ≤ 1000) (hr : s.busy < s.n) (ha : Tre w K q p s 0) :
    Calls Try.prog 46 #[.pointer (some ⟨q, 0, none⟩), .int .i64 x, .int .i64 y] w fun e w' =>
      ∃ (h : Int) (s' : Ar), e = .returned (.int .i64 h) ∧ Tre w' K q p s' 0 ∧ Kept K w w' ∧ Good s' (B + 4) (h :: L) ∧ Ext s s' ∧ Rep s' h (.join l r) ∧ s'.busy = s.busy + 1 := by
  have hx := g.has rx (by simp)
  have hy := g.has ry (by simp)
  have H1 := fun w ha => Lib.hid (llen_is (w := w) (K := fun b => K b ∨ b = q) (p := p) g (by omega) hx (by omega) ha)
  have H2 := fun w ha => Lib.hid (llen_is (w := w) (K := fun b => K b ∨ b = q) (p := p) g (by omega) hy (by omega) ha)
  have HN := fun w ha => Lib.hid (tnode_good (w := w) (K := K) (q := q) (p := p) (x := ⟨5, x, y, 0, 0, IntKind.u64.wrap (IntKind.i64.wrap ((l.len : Int) + (r.len : Int))), 0⟩) g hB (by show 1 ≤ (5 : Int) ∧ (5 : Int) ≤ 6; omega) rfl rfl rx.range ry.range hr ha)
  have Ha := Lib.hid ha
  have Rx := Lib.hid rx
  have Ry := Lib.hid ry
  have c0 := ha.c0
  clear ha g hr hB hx hy rx ry
  generalize hm : l.len = m at *
  generalize hn : r.len = n at *
  go_enter Try.func46, Try.ntmps46
  go_wp2_with fail
  first | go_region_with (first | (go_at_call_of 17 (Value.int .i64 x); refine (H1 _ Ha.out.drew.ars).out.mono ?_; rintro e w3 ⟨rfl, ha3, hk3⟩; have T3 := Lib.hid (Ha.out.drew.below hk3); have d0 : w3.cell? ⟨q, 0, none⟩ = some (.pointer (some ⟨p, 0, none⟩)) := T3.out.c0; have Hk3 := Lib.hid ((Below.refl w.heap.size w).drew.trans hk3); clear ha3 hk3) | (go_at_call_of 17 (Value.int .i64 y); refine (H2 _ T3.out.ars).out.mono ?_; rintro e w4 ⟨rfl, ha4, hk4⟩; have T4 := Lib.hid (T3.out.below hk4); have Hk4 := Lib.hid (Hk3.out.trans (hk4.mono Hk3.out.size)); clear ha4 hk4) | (go_at_call 43; refine (HN _ T4.out).out.mono ?_; rintro e w5 ⟨h, s', rfl, ha5, hk5, g5, e5, b1, b2, u1, n1, y1⟩; have T5 := Lib.hid ha5; have Hk5 := Lib.hid ((Kept.of_below Hk4.out K).trans hk5); have G5 := Lib.hid g5; have E5 := Lib.hid e5; have Y5 := Lib.hid (And.intro b1 (And.intro b2 (And.intro u1 (And.intro n1 y1)))); clear ha5 hk5 g5 e5 b1 b2 u1 n1 y1)) | fail
  all_goals
    go_wp2_with fail
    go_ret
    obtain ⟨b1, b2, u1, n1, y1⟩ := Y5.out
    rw [wrap_small (by omega) (by omega), wrap_u64 (by omega) (by omega)] at n1
    refine ⟨h, s', rfl, T5.out, Hk5.out, G5.out, E5.out, ⟨by omega, by rw [E5.out.n]; omega, u1, x, y, ?_, Rx.out.ext E5.out, Ry.out.ext E5.out⟩, y1⟩
    rw [hm, hn]
    exact n1
end
end Go.Proofs.Ytlnnljkifdmmlaa
