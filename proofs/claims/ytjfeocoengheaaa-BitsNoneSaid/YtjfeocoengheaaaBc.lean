/- Rows of bits in an arena: a bit less, a row that is built: each comes to an end. -/
import Derived.Test.YtjfeocoengheaaaBz
namespace Go.Proofs.Ytjfeocoengheaaa
set_option maxRecDepth 100000

theorem bcut_len {t : BT} (h : t.Full) {i : Nat} (hi : i < t.len) : (bcut t i).len + 1 = t.len := by
  obtain ⟨_, b, _⟩ := bcut_full t i h hi
  have b5 := congrArg List.length b
  have := bDel_len (l := t.list) (i := i) (by rw [BT.len_list]; omega)
  rw [BT.len_list] at b5 this
  omega
theorem cut_ex : ∀ (t : BT) (i : Nat) (s : Ar) (L : List Int) (h : Int), Gd s L → s.made - s.busy ≤ 1000000000 → L.length + t.high ≤ 500000 → BRep s h t → BFirm s L h → t.Fine → i < t.len → t.len ≤ 400000 → t.high ≤ 400 →
    ∃ s' e' r, Cut s 0 h i s' e' r ∧ BRes s L 0 (bcut t i) (3 * t.high - 2) s' e' r
  | .nil, i, _, _, _, _, _, _, _, _, _, hi, _, _ => absurd hi (Nat.not_lt_zero _)
  | .leaf l, i, s, L, h, g, hm, hL, r, f, hf, hi, _, _ => by
    have v := vw_leaf r (f.live g r r.1)
    obtain ⟨l1, l2⟩ := hf.leaf
    have hi : i < l.length := hi
    have := bDel_len hi
    unfold bcut
    by_cases e : l.length = 1
    · rw [if_pos e]
      exact ⟨s, 0, 0, .last v hi e (g.snd (by omega) hm), (Went.refl s).mono (by omega), .inl rfl, g.zero, ⟨fun _ => rfl, .nil, rfl, by show 0 ≤ _; omega⟩, fun _ => rfl, fun a => absurd rfl a⟩
    · rw [if_neg e]
      obtain ⟨s', e', r, p, d⟩ := leafs_ex (l := bDel l i) g (.inl rfl) hm (by omega) (by omega)
      exact ⟨s', e', r, .leaf v hi e p, d.mono (by show 1 ≤ 3 * 1 - 2; omega)⟩
  | .fork x y, i, s, L, h, g, hm, hL, r, f, hf, hi, hl, hh => by
    obtain ⟨fx, fy, g1, g2⟩ := hf.fork
    have el : (BT.fork x y).len = x.len + y.len := rfl
    have eh : (BT.fork x y).high = 1 + max x.high y.high := rfl
    rw [el] at hi hl
    rw [eh] at hh hL ⊢
    obtain ⟨k0, k1, v, r0, r1, f0, f1⟩ := vw_fork (L := L) r (f.live g r r.1) (by omega)
    obtain ⟨v0, u0, u1, _⟩ := vw_any r0 g f0 (by omega)
    have sn := g.snd (by omega) hm
    have hx1 := fx.high
    have hy1 := fy.high
    unfold bcut
    by_cases c : x.len ≤ i
    · rw [if_pos c]
      have q0 := gd_keep g (i := k0) (by have := f0.live g r0 (r0.pos fx.some); omega)
      have E0 := went_keep s k0
      have m0 := E0.md
      obtain ⟨s2, e2, z, p, d⟩ := cut_ex y (i - x.len) (s.keep k0).1 (k0 :: L) k1 q0 (by omega) (by simp; omega) (r1.ext E0.ext) (f1.ext E0.ext fun _ hx => List.mem_cons_of_mem _ hx) fy.fine (by omega) (by omega) (by omega)
      have m1 := d.md
      obtain ⟨b1, b2, b3, b4, b5⟩ := bcut_full y (i - x.len) fy (by omega)
      have b6 := bcut_len fy (i := i - x.len) (by omega)
      obtain ⟨s3, e3, w, p3, d3⟩ := both_ex (x := k0) (y := z) (L := L) d.gd.swap2 d.eok (by omega) (by omega) ((((r0.ext E0.ext).ext d.went.ext).hd 0 (by omega)).err fun a => absurd rfl a) d.hd (.inl fx) b1 (.inl fx.notsmall) (fun _ _ => by omega) (fun a => by rw [fx.notsmall] at a; cases a) (fun a => by have := b5 a; omega) (by omega) (by omega)
      refine ⟨s3, e3, w, .right v sn (by omega) u0 (by omega) (by rw [u1]; exact p) p3, ?_⟩
      refine (((d3.from d.went d.stuck).from E0 fun a => a)).mono ?_
      unfold bothCost
      rw [if_neg (by rw [fx.notsmall]; decide)]
      by_cases sm : (bcut y (i - x.len)).small = true
      · rw [if_pos sm]
        have := b5 sm
        omega
      · rw [if_neg sm]
        omega
    · rw [if_neg c]
      obtain ⟨s2, e2, z, p, d⟩ := cut_ex x i s L k0 g hm (by omega) r0 f0 fx.fine (by omega) (by omega) (by omega)
      have m1 := d.md
      obtain ⟨b1, b2, b3, b4, b5⟩ := bcut_full x i fx (by omega)
      have b6 := bcut_len fx (i := i) (by omega)
      have r1' := r1.ext d.went.ext
      have q1 := gd_keep d.gd (i := k1) (by have := (f1.ext d.went.ext (L' := z :: L) fun _ hx => List.mem_cons_of_mem _ hx).live d.gd r1' (r1'.pos fy.some); omega)
      have E1 := went_keep s2 k1
      have m2 := E1.md
      obtain ⟨s3, e3, w, p3, d3⟩ := both_ex (x := z) (y := k1) (L := L) q1.swap2 (d.eok.same (keep_busy' _ _) (keep_n _ _)) (by omega) (by omega) (d.hd.ext E1.ext) (((r1'.ext E1.ext).hd 0 (by omega)).err fun a => absurd rfl a) b1 (.inl fy) (.inr fy.notsmall) (fun _ _ => by omega) (fun a => by have := b5 a; omega) (fun a => by rw [fy.notsmall] at a; cases a) (by omega) (by omega)
      refine ⟨s3, e3, w, .left v sn (by omega) u0 (by omega) p (d.gd.snd (by simp; omega) (by omega)) p3, ?_⟩
      refine (((d3.from E1 fun a => a).from d.went d.stuck)).mono ?_
      unfold bothCost
      by_cases sm : (bcut x i).small = true
      · rw [if_pos sm]
        have := b5 sm
        omega
      · rw [if_neg sm, if_neg (by rw [fy.notsmall]; decide)]
        omega
/-- A tree of so many leaves: how high it is. -/
def Deep (k h : Nat) : Prop := 1 ≤ h ∧ k ≤ 2 ^ (h - 1) ∧ (2 ≤ h → 2 ^ (h - 2) < k)
theorem Deep.next {a b h1 h2 : Nat} (d1 : Deep a h1) (d2 : Deep b h2) (e : a ≤ b) (e' : b ≤ a + 1) (a1 : 1 ≤ a) : Deep (a + b) (1 + max h1 h2) ∧ h1 ≤ h2 ∧ h2 ≤ h1 + 1 := by
  obtain ⟨p1, p2, p3⟩ := d1
  obtain ⟨q1, q2, q3⟩ := d2
  have le : ∀ {i j : Nat}, 2 ^ i < 2 ^ j → i < j := fun h => (Nat.pow_lt_pow_iff_right (by decide)).1 h
  have l1 : h1 ≤ h2 := by
    by_cases c : 2 ≤ h1
    · have := le (Nat.lt_of_lt_of_le (p3 c) (Nat.le_trans e q2)); omega
    · omega
  have l2 : h2 ≤ h1 + 1 := by
    by_cases c : 2 ≤ h2
    · have h3 := q3 c
      have h4 : 2 ^ (h2 - 2) ≤ 2 ^ (h1 - 1) := by omega
      have := (Nat.pow_le_pow_iff_right (a := 2) (by decide)).1 h4
      omega
    · omega
  refine ⟨⟨by omega, ?_, fun _ => ?_⟩, l1, l2⟩
  · rw [show max h1 h2 = h2 by omega, show 1 + h2 - 1 = (h2 - 1) + 1 by omega, Nat.pow_succ]
    omega
  · rw [show max h1 h2 = h2 by omega, show 1 + h2 - 2 = h2 - 1 by omega]
    by_cases c : 2 ≤ h2
    · have h3 := q3 c
      rw [show h2 - 1 = (h2 - 2) + 1 by omega, Nat.pow_succ]
      omega
    · rw [show h2 - 1 = 0 by omega]; omega
theorem part_bd {n k j : Nat} (hk : 1 ≤ k) (hj : j ≤ k) (h1 : 32 * k ≤ n) (h2 : n ≤ 64 * k) : 32 * j ≤ n * j / k ∧ n * j / k ≤ 64 * j ∧ 32 * (k - j) ≤ n - n * j / k ∧ n - n * j / k ≤ 64 * (k - j) ∧ n * j / k ≤ n := by
  have e1 : 32 * j ≤ n * j / k := by
    rw [Nat.le_div_iff_mul_le (by omega), Nat.mul_right_comm]
    exact Nat.mul_le_mul_right j h1
  have e2 : n * j / k ≤ 64 * j := Nat.div_le_of_le_mul (by rw [Nat.mul_comm k, Nat.mul_right_comm]; exact Nat.mul_le_mul_right j h2)
  have e0 : n * j = n * k - n * (k - j) := by rw [← Nat.mul_sub]; congr 1; omega
  have e3 : n * j / k + 32 * (k - j) ≤ n := by
    have a : n * j + 32 * (k - j) * k ≤ n * k := by
      have b : 32 * (k - j) * k ≤ n * (k - j) := by rw [Nat.mul_right_comm]; exact Nat.mul_le_mul_right _ h1
      have c : n * (k - j) ≤ n * k := Nat.mul_le_mul_left n (Nat.sub_le _ _)
      omega
    have := Nat.div_le_div_right (c := k) a
    rw [Nat.add_mul_div_right _ _ (by omega), Nat.mul_div_cancel _ (by omega)] at this
    exact this
  have e4 : n ≤ n * j / k + 64 * (k - j) := by
    have a : n * k ≤ n * j + 64 * (k - j) * k := by
      have b : n * (k - j) ≤ 64 * (k - j) * k := by rw [Nat.mul_right_comm]; exact Nat.mul_le_mul_right _ h2
      have c : n * (k - j) ≤ n * k := Nat.mul_le_mul_left n (Nat.sub_le _ _)
      omega
    have := Nat.div_le_div_right (c := k) a
    rw [Nat.add_mul_div_right _ _ (by omega), Nat.mul_div_cancel _ (by omega)] at this
    exact this
  omega
theorem build_ex : ∀ (m k : Nat) (l : List Bool) (s : Ar) (e : Int) (L : List Int), k ≤ m → 1 ≤ k → k ≤ 1000 → (k = 1 → 1 ≤ l.length ∧ l.length ≤ 64) → (2 ≤ k → 32 * k ≤ l.length ∧ l.length ≤ 64 * k) → Gd s L → EOk s e → s.made - s.busy ≤ 1000000000 → L.length + k ≤ 500000 →
    ∃ t s' e' r, t.list = l ∧ t.Fine ∧ t.isNil = false ∧ (32 ≤ l.length → t.Full) ∧ Deep k t.high ∧ Build s e l k s' e' r ∧ BRes s L e t (2 * k - 1) s' e' r
  | 0, k, _, _, _, _, h, h1, _, _, _, _, _, _, _ => absurd h (by omega)
  | m + 1, k, l, s, e, L, h, h1, hk, hl1, hl2, g, he, hm, hL => by
    by_cases c : k = 1
    · subst c
      obtain ⟨a, b⟩ := hl1 rfl
      obtain ⟨s', e', r, p, d⟩ := leafs_ex (l := l) g he hm (by omega) b
      exact ⟨.leaf l, s', e', r, rfl, .inr (.inl ⟨l, rfl, a, b⟩), rfl, fun x => ⟨by omega, b⟩, ⟨Nat.le_refl _, Nat.le_refl _, fun x => absurd x (by show ¬ 2 ≤ 1; omega)⟩, .leaf p, d⟩
    · obtain ⟨a, b⟩ := hl2 (by omega)
      obtain ⟨q1, q2, q3, q4, q5⟩ := part_bd (n := l.length) (k := k) (j := k / 2) h1 (by omega) a b
      generalize hat : l.length * (k / 2) / k = at_ at *
      have t1 : (l.take at_).length = at_ := by rw [List.length_take]; omega
      have t2 : (l.drop at_).length = l.length - at_ := by rw [List.length_drop]
      obtain ⟨tx, s1, e1, x, a1, a2, a3, a4, a5, a6, a7⟩ := build_ex m (k / 2) (l.take at_) s e L (by omega) (by omega) (by omega) (fun z => by rw [t1]; rw [z] at q1 q2; omega) (fun z => by rw [t1]; omega) g he hm (by omega)
      have m1 := a7.md
      obtain ⟨ty, s2, e2, y, b1, b2, b3, b4, b5, b6, b7⟩ := build_ex m (k - k / 2) (l.drop at_) s1 e1 (x :: L) (by omega) (by omega) (by omega) (fun z => by rw [t2]; rw [z] at q3 q4; omega) (fun z => by rw [t2]; omega) a7.gd a7.eok (by omega) (by simp; omega)
      have m2 := b7.md
      have l1 := BT.len_list tx
      have l2 := BT.len_list ty
      rw [a1, t1] at l1
      rw [b1, t2] at l2
      obtain ⟨s3, e3, r, p3, d3⟩ := pairOr_ex (x := x) (y := y) (L := L) b7.gd.swap2 b7.eok (by omega) (by omega) ((a7.hd.ext b7.went.ext).err b7.stuck) b7.hd (by omega)
      obtain ⟨f1, f2, f3⟩ := a5.next b5 (by omega) (by omega) (by omega)
      have full : (BT.fork tx ty).Full := ⟨a4 (by rw [t1]; omega), b4 (by rw [t2]; omega), by omega, f3⟩
      refine ⟨.fork tx ty, s3, e3, r, ?_, .inr (.inr full), rfl, fun _ => full, ?_, ?_, ((d3.from b7.went b7.stuck).from a7.went a7.stuck).mono (by omega)⟩
      · show tx.list ++ ty.list = l
        rw [a1, b1, List.take_append_drop]
      · rw [show k / 2 + (k - k / 2) = k by omega] at f1
        exact f1
      · subst hat
        exact .fork (by omega) (by omega) b (by omega) a6 b6 p3
end Go.Proofs.Ytjfeocoengheaaa
