/- A tree of package list that makes nodes, whatever happens: a list of one, a join as it is; a node handed over once more. -/
import Derived.Test.YtcdmebjggdhhdaaM1
namespace Go.Proofs.Ytcdmebjggdhhdaa
open Go.RowKit
section
variable {K : Nat → Prop} {q p : Nat} {s s' : Ar} {B : Int} {L : List Int} {e e' r : Int} {w : World}
theorem wrap_u64 {x : Int} (h : 0 ≤ x) (h' : x < 18446744073709551616) : IntKind.u64.wrap x = x := IntWalk.u64_in x ⟨h, by omega⟩
set_option maxHeartbeats 1000000 in
theorem titem_gen {a b : Int} (g : Gd s L) (he : EOk s e) (hL : L.length ≤ 900000) (hm : s.made - s.busy ≤ 1000000000) (ra : 0 ≤ a ∧ a ≤ 9223372036854775807) (rb : 0 ≤ b ∧ b ≤ 9223372036854775807) (ha : Tre w K q p s e) :
    Calls Try.prog 35 #[.pointer (some ⟨q, 0, none⟩), .agg #[.int .i64 a, .int .i64 b]] w (LOut K q p s e L w (.item a b) 1) := by
  have n1 := g.n1
  have H := fun w ha => Lib.hid (tnode_gen (w := w) (K := K) (q := q) (p := p) (t := 4) (k0 := 0) (k1 := 0) (a := a) (b := b) (L := L) g.zero.zero he hL hm (by omega) (by omega) (by omega) ha)
  have Ha := Lib.hid ha
  clear ha g he hm n1
  go_enter Try.func35, Try.ntmps35
  go_wp2_with fail
  refine (H _ (Ha.out.alloc _)).out.mono ?_
  rintro o w1 ⟨z, s', e', rfl, ha, hk, W, eo, g', hz, her, hok⟩
  go_wp2_with fail
  go_ret
  refine ⟨z, s', e', rfl, ha, ((Kept.refl K w).alloc _).trans hk, W, eo, g', ?_, her⟩
  by_cases h0 : e' = 0
  · rw [h0, er_ok]
    exact hok h0
  · rw [er_no h0]
    exact hz h0
set_option maxHeartbeats 4000000 in
theorem tpair_gen {x y : Int} {l r : Tr} (g : Gd s (x :: y :: L)) (he : EOk s e) (hL : L.length ≤ 900000) (hm : s.made - s.busy ≤ 1000000000) (rx : Rep s x l) (ry : Rep s y r) (hl : l.len + r.len ≤ 100000) (ha : Tre w K q p s e) :
    Calls Try.prog 47 #[.pointer (some ⟨q, 0, none⟩), .int .i64 x, .int .i64 y] w (LOut K q p s e L w (.join l r) 1) := by
  have G := g.goodb (by simp; omega) hm
  have hx := G.has rx (by simp)
  have hy := G.has ry (by simp)
  have H1 := fun w ha => Lib.hid (llen_is (w := w) (K := fun b => K b ∨ b = q) (p := p) G (by decide) hx (by omega) ha)
  have H2 := fun w ha => Lib.hid (llen_is (w := w) (K := fun b => K b ∨ b = q) (p := p) G (by decide) hy (by omega) ha)
  have HN := fun w ha => Lib.hid (tnode_gen (w := w) (K := K) (q := q) (p := p) (t := 5) (k0 := x) (k1 := y) (a := IntKind.u64.wrap (IntKind.i64.wrap ((l.len : Int) + (r.len : Int)))) (b := 0) (L := L) g he hL hm (by omega) rx.range ry.range ha)
  have Ha := Lib.hid ha
  have Rx := Lib.hid rx
  have Ry := Lib.hid ry
  have c0 := ha.c0
  clear ha g G he hm hx hy rx ry
  generalize hm : l.len = m at *
  generalize hn : r.len = n at *
  go_enter Try.func47, Try.ntmps47
  go_wp2_with fail
  first | go_region_with (first | (go_at_call_of 8 (Value.int .i64 x); refine (H1 _ Ha.out.drew.ars).out.mono ?_; rintro e w3 ⟨rfl, ha3, hk3⟩; have T3 := Lib.hid (Ha.out.drew.below hk3); have d0 : w3.cell? ⟨q, 0, none⟩ = some (.pointer (some ⟨p, 0, none⟩)) := T3.out.c0; have Hk3 := Lib.hid ((Below.refl w.heap.size w).drew.trans hk3); clear ha3 hk3) | (go_at_call_of 8 (Value.int .i64 y); refine (H2 _ T3.out.ars).out.mono ?_; rintro e w4 ⟨rfl, ha4, hk4⟩; have T4 := Lib.hid (T3.out.below hk4); have Hk4 := Lib.hid (Hk3.out.trans (hk4.mono Hk3.out.size)); clear ha4 hk4) | (go_at_call 44; refine (HN _ T4.out).out.mono ?_; rintro o w5 ⟨z, s', e', rfl, ha5, hk5, W5, eo5, g5, z5, er5, ok5⟩; have T5 := Lib.hid ha5; have Hk5 := Lib.hid ((Kept.of_below Hk4.out K).trans hk5); have Y5 := Lib.hid (And.intro W5 (And.intro eo5 (And.intro g5 (And.intro z5 (And.intro er5 ok5))))); clear ha5 hk5 W5 eo5 g5 z5 er5 ok5)) | fail
  all_goals
    go_wp2_with fail
    go_ret
    obtain ⟨W5, eo5, g5, z5, er5, ok5⟩ := Y5.out
    refine ⟨z, s', e', rfl, T5.out, Hk5.out, W5, eo5, g5, ?_, er5⟩
    by_cases h0 : e' = 0
    · rw [h0, er_ok]
      obtain ⟨b1, b2, u1, n1⟩ := ok5 h0
      rw [wrap_small (by omega) (by omega), wrap_u64 (by omega) (by omega)] at n1
      refine ⟨b1, b2, u1, x, y, ?_, Rx.out.ext W5.ext, Ry.out.ext W5.ext⟩
      rw [hm, hn]
      exact n1
    · rw [er_no h0]
      exact z5 h0
/-- A node is handed over once more. -/
theorem tkeep_gen {h : Int} (g : Gd s L) (hL : L.length ≤ 900000) (hm : s.made - s.busy ≤ 1000000000) (ha : Tre w K q p s e) :
    Calls Try.prog 37 #[.pointer (some ⟨q, 0, none⟩), .int .i64 h] w fun r w' => r = .returned (.int .i64 h) ∧ Tre w' K q p (s.keep h).1 e ∧ Kept K w w' :=
  tkeep_is h rfl (snd_fit (g.snd (by omega) hm)) ha
theorem keep_facts {h : Int} {t : Tr} (g : Gd s L) (x : Has s h t) (ht : t.isNil = false) : Gd (s.keep h).1 (h :: L) ∧ Went s (s.keep h).1 0 := by
  have h1 := x.rep.pos ht
  exact ⟨gd_keep g (x.live.resolve_left (by omega)), went_keep s h⟩
theorem keep_live {i j : Int} (g : Gd s L) (h : s.count j ≠ 0) : (s.keep i).1.count j ≠ 0 := by
  obtain ⟨B, ok⟩ := g.ok
  obtain ⟨j1, j2, e⟩ := count_pos h
  unfold Ar.keep
  split
  · exact h
  · unfold Ar.count
    rw [if_neg (by show ¬ (j < 1 ∨ (s.n : Int) < j); omega)]
    show upd s.c i.toNat (s.c i.toNat + 1) j.toNat ≠ 0
    by_cases c : j.toNat = i.toNat
    · rw [c, upd_same]
      have := ok.c i.toNat
      omega
    · rw [upd_ne _ _ c, ← e]
      exact h
theorem topen_gen {h : Int} {l r : Tr} (g : Gd s (h :: L)) (hL : L.length ≤ 900000) (hm : s.made - s.busy ≤ 1000000000) (x : Rep s h (.join l r)) (nl : l.isNil = false) (nr : r.isNil = false) (ha : Tre w K q p s e) :
    Calls Try.prog 46 #[.pointer (some ⟨q, 0, none⟩), .int .i64 h] w fun o w' =>
      ∃ (k0 k1 : Int) (s' : Ar), o = .returned (.tuple #[.int .i64 k0, .int .i64 k1]) ∧ Tre w' K q p s' e ∧ Kept K w w' ∧ Gd s' (k0 :: k1 :: L) ∧ Went s s' 0 ∧ Rep s' k0 l ∧ Rep s' k1 r := by
  have G := g.goodb (by simp; omega) hm
  have hx := G.has x (by simp)
  obtain ⟨h1, k0, k1, e1, x0, x1⟩ := hx.join G
  obtain ⟨ga, Wa⟩ := keep_facts g x0 nl
  have x1a : Has (s.keep k0).1 k1 r := by
    refine ⟨x1.rep.ext Wa.ext, ?_⟩
    have p1 := x1.rep.pos nr
    have c1 := x1.live.resolve_left (by omega)
    exact .inr (keep_live g c1)
  obtain ⟨gb, Wb⟩ := keep_facts ga x1a nr
  have r2 := x.ext (Wa.ext.trans Wb.ext)
  have gc : Gd (((s.keep k0).1.keep k1).1.drop h).1 (k0 :: k1 :: L) := gd_drop (L := k0 :: k1 :: L) (gb.perm fun k _ => by simp only [cnt_cons]; omega) r2.range.1 r2.range.2
  have Wc := went_drop ((s.keep k0).1.keep k1).1 h
  have ma := Wa.md
  have mb := Wb.md
  refine (topen_is (e0 := (s.keep k0).2) (e1 := ((s.keep k0).1.keep k1).2) (e2 := (((s.keep k0).1.keep k1).1.drop h).2) h e1 (hx.pos G h1) rfl rfl rfl (snd_fit (g.snd (by simp; omega) hm)) (snd_fit (ga.snd (by simp; omega) (by omega))) (snd_fit (gb.snd (by simp; omega) (by omega))) ha).mono ?_
  rintro o w' ⟨rfl, t1, t2⟩
  have E := (Wa.ext.trans Wb.ext).trans Wc.ext
  exact ⟨k0, k1, _, rfl, t1, t2, gc, (Wa.trans (Wb.trans Wc)).mono (by omega), x0.rep.ext E, x1.rep.ext E⟩
end
end Go.Proofs.Ytcdmebjggdhhdaa
