/- A tree of package bits that makes nodes: a node, a leaf. -/
import Derived.Test.YtjfeocoengheaaaBw3
namespace Go.Proofs.Ytjfeocoengheaaa
set_option maxRecDepth 100000
open Go.RowKit

section
variable {K : Nat → Prop} {q p : Nat} {s s' s1 : Ar} {e e' r : Int} {w : World}
theorem box_kids {W : World} {z : Nat} {x : Nd} (h : W.heap[z]? = some (.cells #[.int .i64 x.tag, .int .i64 x.k0, .int .i64 x.k1, .int .i64 x.k2, .int .i64 x.k3, .int .u64 x.A, .int .u64 x.B] 44 (0, 0))) : ∀ i, i < x.kids.length → W.cell? ⟨z, 1 + i, none⟩ = some (.int .i64 (x.kids.getD i 0)) := by
  intro i hi
  have hi : i < 4 := hi
  have : i = 0 ∨ i = 1 ∨ i = 2 ∨ i = 3 := by omega
  rcases this with rfl | rfl | rfl | rfl <;> exact cell_of_row _ _ _ _ _ _ h
def NodeArg (x : Nd) : Value := .agg #[.int .i64 x.tag, .int .i64 x.k0, .int .i64 x.k1, .int .i64 x.k2, .int .i64 x.k3, .int .u64 x.A, .int .u64 x.B]
set_option maxHeartbeats 4000000 in
theorem bnode_is (x : Nd) (hn : nodeF s e x = (s', e', r)) (sn : Snd s) (ha : BTre w K q p s e) :
    Calls Try.prog 62 #[.pointer (some ⟨q, 0, none⟩), .agg #[.int .i64 x.tag, .int .i64 x.k0, .int .i64 x.k1, .int .i64 x.k2, .int .i64 x.k3, .int .u64 x.A, .int .u64 x.B]] w fun o w' => o = .returned (.int .i64 r) ∧ BTre w' K q p s' e' ∧ Kept K w w' := by
  obtain ⟨K1, hK1⟩ : ∃ K1 : Nat → Prop, K1 = fun b => K b ∨ b = w.heap.size := ⟨_, rfl⟩
  have HK1 := Lib.hid hK1
  replace ha := ha.allocK (.cells #[.int .i64 x.tag, .int .i64 x.k0, .int .i64 x.k1, .int .i64 x.k2, .int .i64 x.k3, .int .u64 x.A, .int .u64 x.B] 44)
  rw [← hK1] at ha
  have hx := heap_alloc_new w (.cells #[.int .i64 x.tag, .int .i64 x.k0, .int .i64 x.k1, .int .i64 x.k2, .int .i64 x.k3, .int .u64 x.A, .int .u64 x.B] 44)
  have Hk := Lib.hid ((Kept.refl K w).alloc (.cells #[.int .i64 x.tag, .int .i64 x.k0, .int .i64 x.k1, .int .i64 x.k2, .int .i64 x.k3, .int .u64 x.A, .int .u64 x.B] 44))
  have c0 := ha.c0
  have c1 := ha.c1
  have Ha := Lib.hid ha
  have Hx := Lib.hid hx
  have hz0 := Lib.hid (lt_heap hx)
  by_cases e0 : e = 0
  · subst e0
    unfold nodeF at hn
    rw [if_pos rfl] at hn
    have hs' : (s.make x).1.drops x.kids = s' := (Prod.mk.inj hn).1
    have he' : (s.make x).2.2 = e' := (Prod.mk.inj (Prod.mk.inj hn).2).1
    have hr : (s.make x).2.1 = r := (Prod.mk.inj (Prod.mk.inj hn).2).2
    subst hs' he' hr
    have HM := fun w K (ha : Ars w K p s) => Lib.hid (make_is x (s' := (s.make x).1) (h := (s.make x).2.1) (e := (s.make x).2.2) rfl ha sn (by decide))
    have ok1 := Lib.hid (ok_make sn x)
    clear hK1 hn ha hx sn
    generalize (s.make x).1 = s1 at *
    generalize (s.make x).2.1 = r at *
    generalize (s.make x).2.2 = e' at *
    go_enter Try.func62, Try.ntmps62
    go_wp2_with fail
    generalize w.alloc (.cells #[.int .i64 x.tag, .int .i64 x.k0, .int .i64 x.k1, .int .i64 x.k2, .int .i64 x.k3, .int .u64 x.A, .int .u64 x.B] 44) = w1 at *
    generalize w.heap.size = z at *
    have hzq : Hid (z ≠ q) := fun e => Ha.out.kq (by rw [HK1.out]; exact .inr e.symm)
    have zK : Hid (K1 z) := by show K1 z; rw [HK1.out]; exact .inr rfl
    have hKK : Hid (∀ b, K b → K1 b) := fun b h => by rw [HK1.out]; exact .inl h
    have x0 : w1.cell? ⟨z, 0, none⟩ = some (.int .i64 x.tag) := cell_of_row _ _ _ _ _ _ Hx.out
    have x1 : w1.cell? ⟨z, 1, none⟩ = some (.int .i64 x.k0) := cell_of_row _ _ _ _ _ _ Hx.out
    have x2 : w1.cell? ⟨z, 2, none⟩ = some (.int .i64 x.k1) := cell_of_row _ _ _ _ _ _ Hx.out
    have x3 : w1.cell? ⟨z, 3, none⟩ = some (.int .i64 x.k2) := cell_of_row _ _ _ _ _ _ Hx.out
    have x4 : w1.cell? ⟨z, 4, none⟩ = some (.int .i64 x.k3) := cell_of_row _ _ _ _ _ _ Hx.out
    have x5 : w1.cell? ⟨z, 5, none⟩ = some (.int .u64 x.A) := cell_of_row _ _ _ _ _ _ Hx.out
    have x6 : w1.cell? ⟨z, 6, none⟩ = some (.int .u64 x.B) := cell_of_row _ _ _ _ _ _ Hx.out
    go_cut [5] (fun v W => v = .int .i64 r ∧ BTre W K1 q p s1 e' ∧ Kept K w W ∧ W.heap[z]? = some (.cells #[.int .i64 x.tag, .int .i64 x.k0, .int .i64 x.k1, .int .i64 x.k2, .int .i64 x.k3, .int .u64 x.A, .int .u64 x.B] 44 (0, 0)))
    case first =>
      first | go_region_with (go_at_call 21; refine (HM _ _ Ha.out.drew.ars).out.mono ?_; rintro o w2 ⟨rfl, ha2, hk2⟩; have T2 := Lib.hid (Ha.out.drew.arena ha2 hk2); have d1 : w2.cell? ⟨q, 1, none⟩ = some (.int .i64 0) := T2.out.c1; have d2 : w2.frozen? ⟨q, 1, none⟩ = false := T2.out.fz 1; have Hx2 := Lib.hid ((hk2.block z hz0.out (.inl zK.out)).trans Hx.out); have Hk2 := Lib.hid (Hk.out.drew.trans (hk2.mono fun b _ h => .inl (hKK.out b h))); clear ha2 hk2) | fail
      all_goals
        have T3 := Lib.hid (T2.out.set1 e')
        have Hx3 := Lib.hid ((Below.heap_setCell w2 ⟨q, 1, none⟩ (.int .i64 e') z hzq.out).trans Hx2.out)
        have Hk3 := Lib.hid (Hk2.out.setCell (p := ⟨q, 1, none⟩) (.inl fun h => T2.out.kq (hKK.out q h)) (.int .i64 e'))
        go_wp2_with fail
        go_meet
        case rel => exact ⟨rfl, T3.out, Hk3.out, Hx3.out⟩
    case rest =>
      obtain ⟨rfl, t3, k3, hx3⟩ := hcut
      have T3 := Lib.hid t3
      have Hx3 := Lib.hid hx3
      have Hk3 := Lib.hid k3
      have HD := Lib.hid (bdrop_is (K := K1) (q := q) (p := p) (w := wc) (s := s1) (e := e') (B := 100000000004) (cap := 4) x.kids zK.out (by show 4 ≤ 10; omega) (by show 4 ≤ 4; omega) (box_kids hx3) ok1.out (by decide) t3)
      clear t3 k3 hx3 x0 x1 x2 x3 x4 x5 x6 c0 c1 HM Ha Hk hz0 Hx
      go_wp2_with fail
      refine HD.out.mono ?_
      rintro o w4 ⟨rfl, ha4, hk4⟩
      go_wp2_with fail
      go_ret
      exact ⟨rfl, ha4.more hKK.out, Hk3.out.trans (hk4.mono fun b _ h => hKK.out b h)⟩
  · unfold nodeF at hn
    rw [if_neg e0] at hn
    have hs' : s.drops x.kids = s' := (Prod.mk.inj hn).1
    have he' : e = e' := (Prod.mk.inj (Prod.mk.inj hn).2).1
    have hr : 0 = r := (Prod.mk.inj (Prod.mk.inj hn).2).2
    subst hs' he' hr
    have ok1 := Lib.hid sn
    have ge : (e == 0) = false := by simpa using e0
    clear hn ha hx sn e0
    have hzl : Hid (w.heap.size < (w.alloc (.cells #[.int .i64 x.tag, .int .i64 x.k0, .int .i64 x.k1, .int .i64 x.k2, .int .i64 x.k3, .int .u64 x.A, .int .u64 x.B] 44)).heap.size) := hz0
    go_enter Try.func62, Try.ntmps62
    go_wp2_with fail
    generalize w.alloc (.cells #[.int .i64 x.tag, .int .i64 x.k0, .int .i64 x.k1, .int .i64 x.k2, .int .i64 x.k3, .int .u64 x.A, .int .u64 x.B] 44) = w1 at *
    generalize w.heap.size = z at *
    have zK : Hid (K1 z) := by show K1 z; rw [HK1.out]; exact .inr rfl
    have hKK : Hid (∀ b, K b → K1 b) := fun b h => by rw [HK1.out]; exact .inl h
    have HD := Lib.hid (bdrop_is (K := K1) (q := q) (p := p) (w := w1) (s := s) (e := e) (B := 100000000000) (cap := 4) x.kids zK.out (by show 4 ≤ 10; omega) (by show 4 ≤ 4; omega) (box_kids Hx.out) ok1.out (by decide) Ha.out)
    refine HD.out.mono ?_
    rintro o w4 ⟨rfl, ha4, hk4⟩
    go_wp2_with fail
    go_ret
    exact ⟨rfl, ha4.more hKK.out, Hk.out.trans (hk4.mono fun b _ h => hKK.out b h)⟩
set_option maxHeartbeats 1000000 in
theorem bleaf_is {l : List Bool} (hn : Leafs s e l s' e' r) (ha : BTre w K q p s e) :
    Calls Try.prog 48 #[.pointer (some ⟨q, 0, none⟩), .agg #[.int .u64 (bN l), .int .i64 l.length]] w fun o w' => o = .returned (.int .i64 r) ∧ BTre w' K q p s' e' ∧ Kept K w w' := by
  have H := fun w ha => Lib.hid (bnode_is (w := w) (K := K) (q := q) (p := p) (leafN l) hn.eq hn.snd ha)
  have Ha := Lib.hid ha
  have hl := hn.len
  have hl' : (l.length : Int) ≤ 64 := by omega
  have hw : IntKind.u64.wrap (l.length : Int) = (l.length : Int) := bwrap_u64 (by omega) (by omega)
  unfold leafN at H
  clear ha hn hl
  generalize (bN l : Int) = x at *
  generalize (l.length : Int) = n at *
  go_enter Try.func48, Try.ntmps48
  go_wp2_with fail
  refine (H _ (Ha.out.alloc _)).out.mono ?_
  rintro o w1 ⟨rfl, ha, hk⟩
  go_wp2_with fail
  go_ret
  exact ⟨rfl, ha, ((Kept.refl K w).alloc _).trans hk⟩
end
end Go.Proofs.Ytjfeocoengheaaa
