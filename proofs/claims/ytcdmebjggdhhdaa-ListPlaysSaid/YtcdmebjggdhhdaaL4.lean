/- A tree's small methods: a node that is handed over once more; a node that is made of kids that are handed over; both kids of a join. -/
import Derived.Test.YtcdmebjggdhhdaaL3
namespace Go.Proofs.Ytcdmebjggdhhdaa
open Go.RowKit

section
variable {K : Nat → Prop} {q p : Nat} {s s' s1 s2 s3 : Ar} {B : Int} {L : List Int} {e : Int} {w : World}
set_option maxHeartbeats 1000000 in
theorem tkeep_is {e1 : Int} (h : Int) (hr : s.keep h = (s', e1)) (hf : s.Fit) (ha : Tre w K q p s e) :
    Calls Try.prog 37 #[.pointer (some ⟨q, 0, none⟩), .int .i64 h] w fun r w' => r = .returned (.int .i64 h) ∧ Tre w' K q p s' e ∧ Kept K w w' := by
  have c0 := ha.c0
  have H := Lib.hid (keep_is h hr ha.ars hf)
  have Ha := Lib.hid ha
  clear ha hr hf
  go_enter Try.func37, Try.ntmps37
  go_wp2_with fail
  refine H.out.mono ?_
  rintro e w1 ⟨rfl, ha, hk⟩
  go_wp2_with fail
  go_ret
  exact ⟨rfl, Ha.out.arena ha hk, hk.part⟩
set_option maxHeartbeats 4000000 in
theorem tnode_is {h e0 e1 : Int} (x : Nd) (hm : s.make x = (s1, h, 0)) (h0 : s1.drop x.k0 = (s2, e0)) (h1 : s2.drop x.k1 = (s3, e1)) (ok : s.Ok B) (hB : B ≤ 1000000000) (f1 : s1.Fit) (f2 : s2.Fit) (ha : Tre w K q p s 0) :
    Calls Try.prog 44 #[.pointer (some ⟨q, 0, none⟩), .agg #[.int .i64 x.tag, .int .i64 x.k0, .int .i64 x.k1, .int .i64 x.k2, .int .i64 x.k3, .int .u64 x.A, .int .u64 x.B]] w fun r w' => r = .returned (.int .i64 h) ∧ Tre w' K q p s3 0 ∧ Kept K w w' := by
  have HM := fun w K (ha : Ars w K p s) => Lib.hid (make_is x hm ha ok (by omega))
  have HD0 := fun w K (ha : Ars w K p s1) => Lib.hid (drop_is x.k0 h0 ha f1)
  have HD1 := fun w K (ha : Ars w K p s2) => Lib.hid (drop_is x.k1 h1 ha f2)
  obtain ⟨K1, hK1⟩ : ∃ K1 : Nat → Prop, K1 = fun b => K b ∨ b = w.heap.size := ⟨_, rfl⟩
  have HK1 := Lib.hid hK1
  replace ha := ha.allocK (.cells #[.int .i64 x.tag, .int .i64 x.k0, .int .i64 x.k1, .int .i64 x.k2, .int .i64 x.k3, .int .u64 x.A, .int .u64 x.B] 64)
  rw [← hK1] at ha
  have hx := heap_alloc_new w (.cells #[.int .i64 x.tag, .int .i64 x.k0, .int .i64 x.k1, .int .i64 x.k2, .int .i64 x.k3, .int .u64 x.A, .int .u64 x.B] 64)
  have Hk := Lib.hid ((Kept.refl K w).alloc (.cells #[.int .i64 x.tag, .int .i64 x.k0, .int .i64 x.k1, .int .i64 x.k2, .int .i64 x.k3, .int .u64 x.A, .int .u64 x.B] 64))
  have c0 := ha.c0
  have c1 := ha.c1
  have Ha := Lib.hid ha
  have Hx := Lib.hid hx
  clear hK1 hm h0 h1 ok hB f1 f2 ha hx
  go_enter Try.func44, Try.ntmps44
  go_wp2_with fail
  have hz := Lib.hid (lt_heap Hx.out)
  generalize w.alloc (.cells #[.int .i64 x.tag, .int .i64 x.k0, .int .i64 x.k1, .int .i64 x.k2, .int .i64 x.k3, .int .u64 x.A, .int .u64 x.B] 64) = w1 at *
  generalize w.heap.size = z at *
  have hzq : Hid (z ≠ q) := fun e => Ha.out.kq (by rw [HK1.out]; exact .inr e.symm)
  have zK : Hid (K1 z) := by show K1 z; rw [HK1.out]; exact .inr rfl
  have hKK : Hid (∀ b, K b → K1 b) := fun b h => by rw [HK1.out]; exact .inl h
  have x0 : w1.cell? ⟨z, 0, none⟩ = some (.int .i64 x.tag) := cell_of_row _ _ _ _ _ _ Hx.out
  have x1 : w1.cell? ⟨z, 1, none⟩ = some (.int .i64 x.k0) := cell_of_row _ _ _ _ _ _ Hx.out
  have x2 : w1.cell? ⟨z, 2, none⟩ = some (.int .i64 x.k1) := cell_of_row _ _ _ _ _ _ Hx.out
  have x3 : w1.cell? ⟨z, 3, none⟩ = some (.int .i64 x.k2) := cell_of_row _ _ _ _ _ _ Hx.out
  have x4 : w1.cell? ⟨z, 4, none⟩ = some (.int .i64 x.k3) := cell_of_row _ _ _ _ _ _ Hx.out
  have x5 : w1.cell? ⟨z, 5, none⟩ = some (.int .u64 x.A) := cell_of_row _ _ _ _ _ _ Hx.out
  have x6 : w1.cell? ⟨z, 6, none⟩ = some (.int .u64 x.B) := cell_of_row _ _ _ _ _ _ Hx.out
  first | go_region_with (go_at_call 52; refine (HM _ _ Ha.out.drew.ars).out.mono ?_; rintro e w2 ⟨rfl, ha2, hk2⟩; have T2 := Lib.hid (Ha.out.drew.arena ha2 hk2); have d1 : w2.cell? ⟨q, 1, none⟩ = some (.int .i64 0) := T2.out.c1; have d2 : w2.frozen? ⟨q, 1, none⟩ = false := T2.out.fz 1; have Hx2 := Lib.hid ((hk2.block z hz.out (.inl zK.out)).trans Hx.out); have Hk2 := Lib.hid (Hk.out.drew.trans (hk2.mono fun b _ h => .inl (hKK.out b h))); clear ha2 hk2) | fail
  all_goals
    have T3 := Lib.hid (T2.out.set1 0)
    have Hx3 := Lib.hid ((Below.heap_setCell w2 ⟨q, 1, none⟩ (.int .i64 0) z hzq.out).trans Hx2.out)
    have Hk3 := Lib.hid (Hk2.out.setCell (p := ⟨q, 1, none⟩) (.inl fun h => T2.out.kq (hKK.out q h)) (.int .i64 0))
    clear d1 d2 Hk2 Hx2 T2 x0 x1 x2 x3 x4 x5 x6 c0 c1 Hk Hx Ha
    generalize w2.setCell ⟨q, 1, none⟩ (.int .i64 0) = w3 at *
    have c0 := T3.out.c0
    have y1 : w3.cell? ⟨z, 1, none⟩ = some (.int .i64 x.k0) := cell_of_row _ _ _ _ _ _ Hx3.out
    go_wp2_with fail
    first | go_region_with (go_at_call 11; refine (HD0 _ _ T3.out.drew.ars).out.mono ?_; rintro e w4 ⟨rfl, ha4, hk4⟩; have T4 := Lib.hid (T3.out.drew.arena ha4 hk4); have Hx4 := Lib.hid ((hk4.block z (lt_heap Hx3.out) (.inl zK.out)).trans Hx3.out); have Hk4 := Lib.hid (Hk3.out.drew.trans (hk4.mono fun b _ h => .inl (hKK.out b h))); clear ha4 hk4) | fail
  all_goals
    clear c0 y1
    have c0 := T4.out.c0
    have y2 : w4.cell? ⟨z, 2, none⟩ = some (.int .i64 x.k1) := cell_of_row _ _ _ _ _ _ Hx4.out
    go_wp2_with fail
    first | go_region_with (go_at_call 11; refine (HD1 _ _ T4.out.drew.ars).out.mono ?_; rintro e w5 ⟨rfl, ha5, hk5⟩; have T5 := Lib.hid (T4.out.drew.arena ha5 hk5); have Hk5 := Lib.hid (Hk4.out.drew.trans (hk5.mono fun b _ h => .inl (hKK.out b h))); clear ha5 hk5) | fail
  all_goals
    go_wp2_with fail
    go_ret
    exact ⟨rfl, T5.out.more hKK.out, Hk5.out⟩
end
end Go.Proofs.Ytcdmebjggdhhdaa
