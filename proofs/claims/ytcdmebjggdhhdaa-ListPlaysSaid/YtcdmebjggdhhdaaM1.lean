/- A tree of package list that makes nodes, whatever happens: a node, a list of one, a join as it is; both kids of a join. -/
import Derived.Test.YtcdmebjggdhhdaaL5
import Derived.Test.YtcdmebjggdhhdaaGd
namespace Go.Proofs.Ytcdmebjggdhhdaa
open Go.RowKit

theorem snd_fit {s : Ar} (h : Snd s) : s.Fit := Ar.Ok.fit h (by decide)
/-- What stands at a handle behind an error: nothing. -/
def er (e : Int) (t : Tr) : Tr := if e = 0 then t else .nil
theorem er_ok (t : Tr) : er 0 t = t := if_pos rfl
theorem er_no {e : Int} (h : e ≠ 0) (t : Tr) : er e t = .nil := if_neg h
/-- What a way of a tree comes to: a list z of tree t, at most m nodes made; or an error. -/
structure LRes (s : Ar) (e : Int) (s' : Ar) (e' z : Int) (m : Nat) (t : Tr) (L : List Int) : Prop where
  went : Went s s' m
  eok : EOk s' e'
  gd : Gd s' (z :: L)
  rep : Rep s' z (er e' t)
  err : e ≠ 0 → e' ≠ 0
theorem LRes.zero {s s' : Ar} {e e' z : Int} {m : Nat} {t : Tr} {L : List Int} (R : LRes s e s' e' z m t L) (h : e' ≠ 0) : z = 0 := by
  have := R.rep
  rw [er_no h] at this
  exact this
theorem LRes.mono {s s' : Ar} {e e' z : Int} {m m' : Nat} {t : Tr} {L : List Int} (R : LRes s e s' e' z m t L) (h : m ≤ m') : LRes s e s' e' z m' t L := ⟨R.went.mono h, R.eok, R.gd, R.rep, R.err⟩
def LOut (K : Nat → Prop) (q p : Nat) (s : Ar) (e : Int) (L : List Int) (w : World) (t : Tr) (m : Nat) (o : Ending) (w' : World) : Prop :=
  ∃ (z : Int) (s' : Ar) (e' : Int), o = .returned (.int .i64 z) ∧ Tre w' K q p s' e' ∧ Kept K w w' ∧ LRes s e s' e' z m t L
theorem drop0 (s : Ar) : (s.drop 0).1 = s := by
  unfold Ar.drop
  rw [if_pos]
  exact if_pos (.inl (by decide))
theorem drops_two (s : Ar) (a b : Int) : s.drops [a, b, 0, 0] = ((s.drop a).1.drop b).1 := by
  show ((((s.drop a).1.drop b).1.drop 0).1.drop 0).1 = _
  rw [drop0, drop0]
section
variable {K : Nat → Prop} {q p : Nat} {s s' : Ar} {B : Int} {L : List Int} {e e' r : Int} {w : World}
set_option maxRecDepth 100000 in
set_option maxHeartbeats 4000000 in
theorem tnode_make {t k0 k1 a b : Int} (sn : Snd s) (hn : nodeF s 0 ⟨t, k0, k1, 0, 0, a, b⟩ = (s', e', r)) (ha : Tre w K q p s 0) :
    Calls Try.prog 44 #[.pointer (some ⟨q, 0, none⟩), .agg #[.int .i64 t, .int .i64 k0, .int .i64 k1, .int .i64 0, .int .i64 0, .int .u64 a, .int .u64 b]] w fun o w' => o = .returned (.int .i64 r) ∧ Tre w' K q p s' e' ∧ Kept K w w' := by
  unfold nodeF at hn
  rw [if_pos rfl] at hn
  have hs' : (s.make ⟨t, k0, k1, 0, 0, a, b⟩).1.drops [k0, k1, 0, 0] = s' := (Prod.mk.inj hn).1
  have he' : (s.make ⟨t, k0, k1, 0, 0, a, b⟩).2.2 = e' := (Prod.mk.inj (Prod.mk.inj hn).2).1
  have hr : (s.make ⟨t, k0, k1, 0, 0, a, b⟩).2.1 = r := (Prod.mk.inj (Prod.mk.inj hn).2).2
  rw [drops_two] at hs'
  have HM := fun w K (ha : Ars w K p s) => Lib.hid (make_is ⟨t, k0, k1, 0, 0, a, b⟩ (s' := (s.make ⟨t, k0, k1, 0, 0, a, b⟩).1) (h := (s.make ⟨t, k0, k1, 0, 0, a, b⟩).2.1) (e := (s.make ⟨t, k0, k1, 0, 0, a, b⟩).2.2) rfl ha sn (by decide))
  have ok1 := ok_make sn ⟨t, k0, k1, 0, 0, a, b⟩
  rw [hr, he'] at HM
  clear hn hr he'
  generalize (s.make ⟨t, k0, k1, 0, 0, a, b⟩).1 = s1 at *
  have HD0 := fun w K (ha : Ars w K p s1) => Lib.hid (drop_is k0 (s' := (s1.drop k0).1) (e := (s1.drop k0).2) rfl ha (ok1.fit (by decide)))
  have HD1 := fun w K (ha : Ars w K p (s1.drop k0).1) => Lib.hid (drop_is k1 (s' := ((s1.drop k0).1.drop k1).1) (e := ((s1.drop k0).1.drop k1).2) rfl ha ((ok_drop ok1 k0).fit (by decide)))
  have Hs := Lib.hid hs'.symm
  clear ok1 hs'
  obtain ⟨K1, hK1⟩ : ∃ K1 : Nat → Prop, K1 = fun b => K b ∨ b = w.heap.size := ⟨_, rfl⟩
  have HK1 := Lib.hid hK1
  replace ha := ha.allocK (.cells #[.int .i64 t, .int .i64 k0, .int .i64 k1, .int .i64 0, .int .i64 0, .int .u64 a, .int .u64 b] 64)
  rw [← hK1] at ha
  have hx := heap_alloc_new w (.cells #[.int .i64 t, .int .i64 k0, .int .i64 k1, .int .i64 0, .int .i64 0, .int .u64 a, .int .u64 b] 64)
  have Hk := Lib.hid ((Kept.refl K w).alloc (.cells #[.int .i64 t, .int .i64 k0, .int .i64 k1, .int .i64 0, .int .i64 0, .int .u64 a, .int .u64 b] 64))
  have c0 := ha.c0
  have c1 := ha.c1
  have Ha := Lib.hid ha
  have Hx := Lib.hid hx
  clear hK1 ha hx sn
  go_enter Try.func44, Try.ntmps44
  go_wp2_with fail
  have hz := Lib.hid (lt_heap Hx.out)
  generalize w.alloc (.cells #[.int .i64 t, .int .i64 k0, .int .i64 k1, .int .i64 0, .int .i64 0, .int .u64 a, .int .u64 b] 64) = w1 at *
  generalize w.heap.size = z at *
  have hzq : Hid (z ≠ q) := fun e => Ha.out.kq (by rw [HK1.out]; exact .inr e.symm)
  have zK : Hid (K1 z) := by show K1 z; rw [HK1.out]; exact .inr rfl
  have hKK : Hid (∀ b, K b → K1 b) := fun b h => by rw [HK1.out]; exact .inl h
  have x0 : w1.cell? ⟨z, 0, none⟩ = some (.int .i64 t) := cell_of_row _ _ _ _ _ _ Hx.out
  have x1 : w1.cell? ⟨z, 1, none⟩ = some (.int .i64 k0) := cell_of_row _ _ _ _ _ _ Hx.out
  have x2 : w1.cell? ⟨z, 2, none⟩ = some (.int .i64 k1) := cell_of_row _ _ _ _ _ _ Hx.out
  have x3 : w1.cell? ⟨z, 3, none⟩ = some (.int .i64 0) := cell_of_row _ _ _ _ _ _ Hx.out
  have x4 : w1.cell? ⟨z, 4, none⟩ = some (.int .i64 0) := cell_of_row _ _ _ _ _ _ Hx.out
  have x5 : w1.cell? ⟨z, 5, none⟩ = some (.int .u64 a) := cell_of_row _ _ _ _ _ _ Hx.out
  have x6 : w1.cell? ⟨z, 6, none⟩ = some (.int .u64 b) := cell_of_row _ _ _ _ _ _ Hx.out
  first | go_region_with (go_at_call 52; refine (HM _ _ Ha.out.drew.ars).out.mono ?_; rintro e w2 ⟨rfl, ha2, hk2⟩; have T2 := Lib.hid (Ha.out.drew.arena ha2 hk2); have d1 : w2.cell? ⟨q, 1, none⟩ = some (.int .i64 0) := T2.out.c1; have d2 : w2.frozen? ⟨q, 1, none⟩ = false := T2.out.fz 1; have Hx2 := Lib.hid ((hk2.block z hz.out (.inl zK.out)).trans Hx.out); have Hk2 := Lib.hid (Hk.out.drew.trans (hk2.mono fun b _ h => .inl (hKK.out b h))); clear ha2 hk2) | fail
  all_goals
    have T3 := Lib.hid (T2.out.set1 e')
    have Hx3 := Lib.hid ((Below.heap_setCell w2 ⟨q, 1, none⟩ (.int .i64 e') z hzq.out).trans Hx2.out)
    have Hk3 := Lib.hid (Hk2.out.setCell (p := ⟨q, 1, none⟩) (.inl fun h => T2.out.kq (hKK.out q h)) (.int .i64 e'))
    clear d1 d2 Hk2 Hx2 T2 x0 x1 x2 x3 x4 x5 x6 c0 c1 Hk Hx Ha
    generalize w2.setCell ⟨q, 1, none⟩ (.int .i64 e') = w3 at *
    have c0 := T3.out.c0
    have y1 : w3.cell? ⟨z, 1, none⟩ = some (.int .i64 k0) := cell_of_row _ _ _ _ _ _ Hx3.out
    go_wp2_with fail
    first | go_region_with (go_at_call 11; refine (HD0 _ _ T3.out.drew.ars).out.mono ?_; rintro e w4 ⟨rfl, ha4, hk4⟩; have T4 := Lib.hid (T3.out.drew.arena ha4 hk4); have Hx4 := Lib.hid ((hk4.block z (lt_heap Hx3.out) (.inl zK.out)).trans Hx3.out); have Hk4 := Lib.hid (Hk3.out.drew.trans (hk4.mono fun b _ h => .inl (hKK.out b h))); clear ha4 hk4) | fail
  all_goals
    clear c0 y1
    have c0 := T4.out.c0
    have y2 : w4.cell? ⟨z, 2, none⟩ = some (.int .i64 k1) := cell_of_row _ _ _ _ _ _ Hx4.out
    go_wp2_with fail
    first | go_region_with (go_at_call 11; refine (HD1 _ _ T4.out.drew.ars).out.mono ?_; rintro e w5 ⟨rfl, ha5, hk5⟩; have T5 := Lib.hid (T4.out.drew.arena ha5 hk5); have Hk5 := Lib.hid (Hk4.out.drew.trans (hk5.mono fun b _ h => .inl (hKK.out b h))); clear ha5 hk5) | fail
  all_goals
    go_wp2_with fail
    go_ret
    exact ⟨rfl, by have t := T5.out; rw [← Hs.out] at t; exact t.more hKK.out, Hk5.out⟩
set_option maxRecDepth 100000 in
set_option maxHeartbeats 4000000 in
theorem tnode_fail {t k0 k1 a b : Int} (sn : Snd s) (he : e ≠ 0) (ha : Tre w K q p s e) :
    Calls Try.prog 44 #[.pointer (some ⟨q, 0, none⟩), .agg #[.int .i64 t, .int .i64 k0, .int .i64 k1, .int .i64 0, .int .i64 0, .int .u64 a, .int .u64 b]] w fun o w' => o = .returned (.int .i64 0) ∧ Tre w' K q p (s.drops [k0, k1, 0, 0]) e ∧ Kept K w w' := by
  have ge : (e == 0) = false := by simpa using he
  have HD0 := fun w K (ha : Ars w K p s) => Lib.hid (drop_is k0 (s' := (s.drop k0).1) (e := (s.drop k0).2) rfl ha ((show s.Ok 100000000000 from sn).fit (by decide)))
  have HD1 := fun w K (ha : Ars w K p (s.drop k0).1) => Lib.hid (drop_is k1 (s' := ((s.drop k0).1.drop k1).1) (e := ((s.drop k0).1.drop k1).2) rfl ha ((ok_drop (show s.Ok 100000000000 from sn) k0).fit (by decide)))
  have Hs := Lib.hid (drops_two s k0 k1)
  clear he
  obtain ⟨K1, hK1⟩ : ∃ K1 : Nat → Prop, K1 = fun b => K b ∨ b = w.heap.size := ⟨_, rfl⟩
  have HK1 := Lib.hid hK1
  replace ha := ha.allocK (.cells #[.int .i64 t, .int .i64 k0, .int .i64 k1, .int .i64 0, .int .i64 0, .int .u64 a, .int .u64 b] 64)
  rw [← hK1] at ha
  have hx := heap_alloc_new w (.cells #[.int .i64 t, .int .i64 k0, .int .i64 k1, .int .i64 0, .int .i64 0, .int .u64 a, .int .u64 b] 64)
  have Hk := Lib.hid ((Kept.refl K w).alloc (.cells #[.int .i64 t, .int .i64 k0, .int .i64 k1, .int .i64 0, .int .i64 0, .int .u64 a, .int .u64 b] 64))
  have c0 := ha.c0
  have c1 := ha.c1
  have Ha := Lib.hid ha
  have Hx := Lib.hid hx
  clear hK1 ha hx sn
  go_enter Try.func44, Try.ntmps44
  go_wp2_with fail
  have hz := Lib.hid (lt_heap Hx.out)
  generalize w.alloc (.cells #[.int .i64 t, .int .i64 k0, .int .i64 k1, .int .i64 0, .int .i64 0, .int .u64 a, .int .u64 b] 64) = w1 at *
  generalize w.heap.size = z at *
  have hzq : Hid (z ≠ q) := fun e => Ha.out.kq (by rw [HK1.out]; exact .inr e.symm)
  have zK : Hid (K1 z) := by show K1 z; rw [HK1.out]; exact .inr rfl
  have hKK : Hid (∀ b, K b → K1 b) := fun b h => by rw [HK1.out]; exact .inl h
  have T3 := Lib.hid Ha.out
  have Hx3 := Lib.hid Hx.out
  have Hk3 := Lib.hid Hk.out
  clear c0 c1 Hk Hx Ha
  obtain ⟨w3, rfl⟩ : ∃ w3 : World, w3 = w1 := ⟨_, rfl⟩
  all_goals
    skip
    have c0 := T3.out.c0
    have y1 : w3.cell? ⟨z, 1, none⟩ = some (.int .i64 k0) := cell_of_row _ _ _ _ _ _ Hx3.out
    go_wp2_with fail
    first | go_region_with (go_at_call 11; refine (HD0 _ _ T3.out.drew.ars).out.mono ?_; rintro e w4 ⟨rfl, ha4, hk4⟩; have T4 := Lib.hid (T3.out.drew.arena ha4 hk4); have Hx4 := Lib.hid ((hk4.block z (lt_heap Hx3.out) (.inl zK.out)).trans Hx3.out); have Hk4 := Lib.hid (Hk3.out.drew.trans (hk4.mono fun b _ h => .inl (hKK.out b h))); clear ha4 hk4) | fail
  all_goals
    clear c0 y1
    have c0 := T4.out.c0
    have y2 : w4.cell? ⟨z, 2, none⟩ = some (.int .i64 k1) := cell_of_row _ _ _ _ _ _ Hx4.out
    go_wp2_with fail
    first | go_region_with (go_at_call 11; refine (HD1 _ _ T4.out.drew.ars).out.mono ?_; rintro e w5 ⟨rfl, ha5, hk5⟩; have T5 := Lib.hid (T4.out.drew.arena ha5 hk5); have Hk5 := Lib.hid (Hk4.out.drew.trans (hk5.mono fun b _ h => .inl (hKK.out b h))); clear ha5 hk5) | fail
  all_goals
    go_wp2_with fail
    go_ret
    exact ⟨rfl, by have t := T5.out; rw [← Hs.out] at t; exact t.more hKK.out, Hk5.out⟩
/-- A node is made of kids that are handed over. -/
theorem tnode_gen {t k0 k1 a b : Int} (g : Gd s (k0 :: k1 :: L)) (he : EOk s e) (hL : L.length ≤ 900000) (hm : s.made - s.busy ≤ 1000000000) (ht : 1 ≤ t ∧ t ≤ 6) (r0 : 0 ≤ k0 ∧ k0 ≤ s.n) (r1 : 0 ≤ k1 ∧ k1 ≤ s.n) (ha : Tre w K q p s e) :
    Calls Try.prog 44 #[.pointer (some ⟨q, 0, none⟩), .agg #[.int .i64 t, .int .i64 k0, .int .i64 k1, .int .i64 0, .int .i64 0, .int .u64 a, .int .u64 b]] w fun o w' =>
      ∃ (z : Int) (s' : Ar) (e' : Int), o = .returned (.int .i64 z) ∧ Tre w' K q p s' e' ∧ Kept K w w' ∧ Went s s' 1 ∧ EOk s' e' ∧ Gd s' (z :: L) ∧ (e' ≠ 0 → z = 0) ∧ (e ≠ 0 → e' ≠ 0) ∧ (e' = 0 → 1 ≤ z ∧ z ≤ s'.n ∧ s'.u z.toNat = true ∧ s'.nd z.toNat = ⟨t, k0, k1, 0, 0, a, b⟩) := by
  have sn : Snd s := g.snd (by simp; omega) hm
  obtain ⟨s', e', r, hn, W, eo, g', z, er', ok⟩ := node_ex (s := s) (e := e) (L := L) (x := ⟨t, k0, k1, 0, 0, a, b⟩) (g.perm fun k hk => by
    show cnt (k0 :: k1 :: 0 :: 0 :: L) k = _
    simp only [cnt_cons]
    rw [if_neg (show ¬ (0 : Int) = (k : Int) by omega)]
    omega) he ht (fun y hy => by
    have : y = k0 ∨ y = k1 ∨ y = 0 ∨ y = 0 := by simpa [Nd.kids] using hy
    omega)
  by_cases h0 : e = 0
  · subst h0
    refine (tnode_make sn hn ha).mono ?_
    rintro o w' ⟨rfl, h1, h2⟩
    exact ⟨r, s', e', rfl, h1, h2, W, eo, g', z, er', fun e0 => ⟨(ok e0).1, (ok e0).2.1, (ok e0).2.2.1, (ok e0).2.2.2.1⟩⟩
  · have hn2 : (s.drops [k0, k1, 0, 0], e, (0 : Int)) = (s', e', r) := by
      unfold nodeF at hn
      rw [if_neg h0] at hn
      exact hn
    obtain ⟨rfl, hn3⟩ := Prod.mk.inj hn2
    obtain ⟨rfl, rfl⟩ := Prod.mk.inj hn3
    refine (tnode_fail sn h0 ha).mono ?_
    rintro o w' ⟨rfl, h1, h2⟩
    exact ⟨0, _, e, rfl, h1, h2, W, eo, g', z, er', fun e0 => absurd e0 h0⟩
end
end Go.Proofs.Ytcdmebjggdhhdaa
