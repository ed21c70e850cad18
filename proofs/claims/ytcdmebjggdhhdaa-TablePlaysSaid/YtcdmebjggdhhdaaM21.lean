/- Get: an item of a list. -/
import Derived.Test.YtcdmebjggdhhdaaM10
import Derived.Test.YtcdmebjggdhhdaaM9
import Derived.Deep.LoopGhost
namespace Go.Proofs.Ytcdmebjggdhhdaa
open Go.RowKit

/-- All numbers of a list are those of Go's int, and none is below nought. -/
def Rg (l : List (Int × Int)) : Prop := ∀ p, p ∈ l → (0 ≤ p.1 ∧ p.1 ≤ 9223372036854775807) ∧ (0 ≤ p.2 ∧ p.2 ≤ 9223372036854775807)
theorem Rg.at_ {l : List (Int × Int)} (h : Rg l) {i : Nat} (hi : i < l.length) : (0 ≤ (l.getD i (0, 0)).1 ∧ (l.getD i (0, 0)).1 ≤ 9223372036854775807) ∧ (0 ≤ (l.getD i (0, 0)).2 ∧ (l.getD i (0, 0)).2 ≤ 9223372036854775807) := by
  rw [List.getD_eq_getElem?_getD, List.getElem?_eq_getElem hi]
  exact h _ (List.getElem_mem _)
/-- The node of a tree stands in a box. -/
def NBox (W : World) (z : Nat) (s : Ar) : Tr → Prop
  | .nil => False
  | .item a b => W.heap[z]? = some (.cells #[.int .i64 4, .int .i64 0, .int .i64 0, .int .i64 0, .int .i64 0, .int .u64 a, .int .u64 b] 64 (0, 0))
  | .join l r => ∃ k0 k1 m : Int, W.heap[z]? = some (.cells #[.int .i64 5, .int .i64 k0, .int .i64 k1, .int .i64 0, .int .i64 0, .int .u64 m, .int .u64 0] 64 (0, 0)) ∧ Has s k0 l ∧ Has s k1 r
/-- While Get goes down. -/
structure Down (K : Nat → Prop) (p : Nat) (s : Ar) (z r : Nat) (g : Int × Int) (w : World) (k : Nat) (t : Tr) (i : Nat) (W : World) : Prop where
  ars : Ars W K p s
  below : Below w.heap.size w W
  box : NBox W z s t
  res : W.heap[r]? = some (.cells #[.int .i64 0, .int .i64 0] 30 (0, 0))
  bal : t.Bal
  len : t.len ≤ 1000
  lt : i < t.len
  at_ : t.list.getD i (0, 0) = g
  high : t.high ≤ k
theorem set7 {w : World} {z : Nat} {a0 a1 a2 a3 a4 a5 a6 b0 b1 b2 b3 b4 b5 b6 : Value} {ty : TypeId} (h : w.heap[z]? = some (.cells #[a0, a1, a2, a3, a4, a5, a6] ty (0, 0))) :
    (((((((w.setCell ⟨z, 0, none⟩ b0).setCell ⟨z, 1, none⟩ b1).setCell ⟨z, 2, none⟩ b2).setCell ⟨z, 3, none⟩ b3).setCell ⟨z, 4, none⟩ b4).setCell ⟨z, 5, none⟩ b5).setCell ⟨z, 6, none⟩ b6).heap[z]? = some (.cells #[b0, b1, b2, b3, b4, b5, b6] ty (0, 0)) := by
  rw [heap_setCell_same _ _ _ _ ty _ (heap_setCell_same _ _ _ _ ty _ (heap_setCell_same _ _ _ _ ty _ (heap_setCell_same _ _ _ _ ty _ (heap_setCell_same _ _ _ _ ty _ (heap_setCell_same _ _ _ _ ty _ (heap_setCell_same _ _ _ _ ty _ h))))))]
  rfl
theorem set7_other {w : World} {z b : Nat} {b0 b1 b2 b3 b4 b5 b6 : Value} (h : b ≠ z) :
    (((((((w.setCell ⟨z, 0, none⟩ b0).setCell ⟨z, 1, none⟩ b1).setCell ⟨z, 2, none⟩ b2).setCell ⟨z, 3, none⟩ b3).setCell ⟨z, 4, none⟩ b4).setCell ⟨z, 5, none⟩ b5).setCell ⟨z, 6, none⟩ b6).heap[b]? = w.heap[b]? := by
  rw [heap_setCell_other _ _ _ _ h, heap_setCell_other _ _ _ _ h, heap_setCell_other _ _ _ _ h, heap_setCell_other _ _ _ _ h, heap_setCell_other _ _ _ _ h, heap_setCell_other _ _ _ _ h, heap_setCell_other _ _ _ _ h]
theorem set7_ars {w : World} {K : Nat → Prop} {p : Nat} {s : Ar} {z : Nat} {b0 b1 b2 b3 b4 b5 b6 : Value} (h : Ars w K p s) (hz : K z) :
    Ars (((((((w.setCell ⟨z, 0, none⟩ b0).setCell ⟨z, 1, none⟩ b1).setCell ⟨z, 2, none⟩ b2).setCell ⟨z, 3, none⟩ b3).setCell ⟨z, 4, none⟩ b4).setCell ⟨z, 5, none⟩ b5).setCell ⟨z, 6, none⟩ b6) K p s :=
  ((((((h.setCell hz _).setCell hz _).setCell hz _).setCell hz _).setCell hz _).setCell hz _).setCell hz _
theorem set7_below {w W : World} {B z : Nat} {b0 b1 b2 b3 b4 b5 b6 : Value} (h : Below B w W) (hz : B ≤ z) :
    Below B w (((((((W.setCell ⟨z, 0, none⟩ b0).setCell ⟨z, 1, none⟩ b1).setCell ⟨z, 2, none⟩ b2).setCell ⟨z, 3, none⟩ b3).setCell ⟨z, 4, none⟩ b4).setCell ⟨z, 5, none⟩ b5).setCell ⟨z, 6, none⟩ b6) :=
  ((((((h.setCell hz _).setCell hz _).setCell hz _).setCell hz _).setCell hz _).setCell hz _).setCell hz _
theorem NBox.below {W W' : World} {z : Nat} {s : Ar} : ∀ {t : Tr}, NBox W z s t → Below W.heap.size W W' → NBox W' z s t
  | .nil, h, _ => h
  | .item _ _, h, hb => (hb.block _ (lt_heap h)).trans h
  | .join _ _, ⟨k0, k1, m, h, x⟩, hb => ⟨k0, k1, m, (hb.block _ (lt_heap h)).trans h, x⟩
theorem NBox.seven {W : World} {z : Nat} {s : Ar} : ∀ {t : Tr}, NBox W z s t → ∃ a0 a1 a2 a3 a4 a5 a6 : Value, W.heap[z]? = some (.cells #[a0, a1, a2, a3, a4, a5, a6] 64 (0, 0))
  | .nil, h => h.elim
  | .item _ _, h => ⟨_, _, _, _, _, _, _, h⟩
  | .join _ _, ⟨_, _, _, h, _⟩ => ⟨_, _, _, _, _, _, _, h⟩
/-- What list.node answers of a tree. -/
def NodeOf (s : Ar) : Tr → Nd → Prop
  | .nil, _ => False
  | .item a b, x => x = ⟨4, 0, 0, 0, 0, a, b⟩
  | .join l r, x => ∃ k0 k1 m, x = ⟨5, k0, k1, 0, 0, m, 0⟩ ∧ Has s k0 l ∧ Has s k1 r
theorem node_any {K : Nat → Prop} {p : Nat} {s : Ar} {B : Int} {L : List Int} {w : World} {h : Int} {t : Tr} (g : Good s B L) (hf : s.Fit) (x : Has s h t) (hb : t.Bal) (ha : Ars w K p s) :
    ∃ nd, NodeOf s t nd ∧ Calls Try.prog 30 #[.pointer (some ⟨p, 0, none⟩), .int .i64 h] w fun r w' => r = .returned (.tuple #[.agg #[.int .i64 nd.tag, .int .i64 nd.k0, .int .i64 nd.k1, .int .i64 nd.k2, .int .i64 nd.k3, .int .u64 nd.A, .int .u64 nd.B], .bool true]) ∧ Ars w' K p s ∧ Below w.heap.size w w' := by
  cases t with
  | nil => exact hb.elim
  | item a b => exact ⟨_, rfl, node_item g hf x ha⟩
  | join l r =>
    obtain ⟨h1, k0, k1, e, x0, x1⟩ := x.join g
    exact ⟨⟨5, k0, k1, 0, 0, _, 0⟩, ⟨k0, k1, _, rfl, x0, x1⟩, node_join g hf x e ha⟩
theorem NodeOf.box {W : World} {z : Nat} {s : Ar} {nd : Nd} : ∀ {t : Tr}, NodeOf s t nd → W.heap[z]? = some (.cells #[.int .i64 nd.tag, .int .i64 nd.k0, .int .i64 nd.k1, .int .i64 nd.k2, .int .i64 nd.k3, .int .u64 nd.A, .int .u64 nd.B] 64 (0, 0)) → NBox W z s t
  | .nil, h, _ => h
  | .item _ _, rfl, hb => hb
  | .join _ _, ⟨k0, k1, m, rfl, x⟩, hb => ⟨k0, k1, m, hb, x⟩
section
variable {K : Nat → Prop} {p : Nat} {s : Ar} {B : Int} {L : List Int} {w : World}
set_option maxRecDepth 100000 in
set_option maxHeartbeats 8000000 in
theorem get_some {h : Int} {t : Tr} {i : Nat} {ga gb : Int} (g : Good s B L) (hB : B ≤ 1000000000000) (hx : Has s h t) (hb : t.Bal) (hl : t.len ≤ 1000) (hi : i < t.len) (hg : t.list.getD i (0, 0) = (ga, gb)) (ra : 0 ≤ ga ∧ ga ≤ 9223372036854775807) (rb : 0 ≤ gb ∧ gb ≤ 9223372036854775807) (ha : Ars w K p s) :
    Calls Try.prog 20 #[.pointer (some ⟨p, 0, none⟩), .int .i64 h, .int .i64 i] w fun e w' => e = .returned (.tuple #[.agg #[.int .i64 ga, .int .i64 gb], .bool true]) ∧ Below w.heap.size w w' := by
  have hf := g.ok.fit (by omega)
  have HL := fun w ha => Lib.hid (llen_is (w := w) (K := K) (p := p) g (by omega) hx (by omega) ha)
  have Ha := Lib.hid ha
  have G := Lib.hid g
  have Hx := Lib.hid hx
  have Hf := Lib.hid hf
  have Hg := Lib.hid hg
  obtain ⟨r1, r2⟩ := ra
  obtain ⟨r3, r4⟩ := rb
  clear ha g hx hf hg
  go_enter Try.func20, Try.ntmps20
  go_wp2_with fail
  have hres := heap_alloc_new w (.cells #[.int .i64 0, .int .i64 0] 30)
  refine (HL _ (Ha.out.alloc _)).out.mono ?_
  clear HL
  rintro e w1 ⟨rfl, ha1, hk1⟩
  have hres1 := Lib.hid ((hk1.block _ (by simp)).trans hres)
  have b1 := Lib.hid (((Below.refl w.heap.size w).alloc (Nat.le_refl _) (.cells #[.int .i64 0, .int .i64 0] 30)).trans (hk1.mono (by simp)))
  clear hres hk1 ha1
  obtain ⟨nd, hnd, hcn⟩ := node_any G.out Hf.out Hx.out hb (Ha.out.below b1.out)
  have Hn := Lib.hid hcn
  have Nd1 := Lib.hid hnd
  clear hcn hnd
  go_wp2_with fail
  refine Hn.out.mono ?_
  clear Hn
  rintro e w2 ⟨rfl, ha2, hk2⟩
  have b2 := Lib.hid (b1.out.trans (hk2.mono b1.out.size))
  have hres2 := Lib.hid ((hk2.block _ (lt_heap hres1.out)).trans hres1.out)
  clear hk2 ha2 b1 hres1
  go_wp2_with fail
  have hz := heap_alloc_new w2 (.cells #[.int .i64 nd.tag, .int .i64 nd.k0, .int .i64 nd.k1, .int .i64 nd.k2, .int .i64 nd.k3, .int .u64 nd.A, .int .u64 nd.B] 64)
  have b3 := Lib.hid (b2.out.alloc b2.out.size (.cells #[.int .i64 nd.tag, .int .i64 nd.k0, .int .i64 nd.k1, .int .i64 nd.k2, .int .i64 nd.k3, .int .u64 nd.A, .int .u64 nd.B] 64))
  have hres3 := Lib.hid ((Below.heap_alloc w2 (.cells #[.int .i64 nd.tag, .int .i64 nd.k0, .int .i64 nd.k1, .int .i64 nd.k2, .int .i64 nd.k3, .int .u64 nd.A, .int .u64 nd.B] 64) _ (lt_heap hres2.out)).trans hres2.out)
  have zb : w.heap.size < w2.heap.size := lt_heap hres2.out
  generalize w2.alloc (.cells #[.int .i64 nd.tag, .int .i64 nd.k0, .int .i64 nd.k1, .int .i64 nd.k2, .int .i64 nd.k3, .int .u64 nd.A, .int .u64 nd.B] 64) = w3 at *
  obtain ⟨K1, hK1⟩ : ∃ K1 : Nat → Prop, K1 = fun b => K b ∨ b = w2.heap.size := ⟨_, rfl⟩
  have hD : Down K1 p s w2.heap.size w.heap.size (ga, gb) w t.high t i w3 := ⟨Ha.out.newK b3.out fun b e => by
    rw [hK1] at e
    rcases e with e | rfl
    · exact ⟨Nat.lt_of_lt_of_le (Ha.out.lt b e) b3.out.size, .inl e⟩
    · exact ⟨lt_heap hz, .inr (by omega)⟩, b3.out, Nd1.out.box hz, hres3.out, hb, hl, hi, Hg.out, Nat.le_refl _⟩
  have zK := Lib.hid (show K1 w2.heap.size by rw [hK1]; exact .inr rfl)
  have HD := Lib.hid hD
  have Zb := Lib.hid zb
  clear hK1 hD hz b3 hres3 b2 hres2 Ha Nd1 hb Hg
  generalize w2.heap.size = z at *
  go_loopg [1, 2] t.high (fun k h i W => ∃ (h' : Int) (i' : Nat) (t' : Tr), h = .int .i64 h' ∧ i = .int .i64 i' ∧ Down K1 p s z w.heap.size (ga, gb) w k t' i' W)
  case atStart => exact ⟨h, i, t, rfl, rfl, HD.out⟩
  case round =>
    obtain ⟨h', i', t', rfl, rfl, hd⟩ := hrel
    clear HD
    cases t' with
    | nil => exact hd.bal.elim
    | item a b =>
      have hbx : wr.heap[z]? = some (.cells #[.int .i64 4, .int .i64 0, .int .i64 0, .int .i64 0, .int .i64 0, .int .u64 a, .int .u64 b] 64 (0, 0)) := hd.box
      have hi0 : i' = 0 := by have := hd.lt; have e : (Tr.item a b).len = 1 := rfl; omega
      have hgab := hd.at_
      rw [hi0] at hgab
      obtain ⟨rfl, rfl⟩ : a = ga ∧ b = gb := by simpa [Tr.list] using hgab
      have d0 : wr.cell? ⟨z, 0, none⟩ = some (.int .i64 4) := cell_of_row _ _ _ _ _ _ hbx
      have d5 : wr.cell? ⟨z, 5, none⟩ = some (.int .u64 a) := cell_of_row _ _ _ _ _ _ hbx
      have d6 : wr.cell? ⟨z, 6, none⟩ = some (.int .u64 b) := cell_of_row _ _ _ _ _ _ hbx
      have f0 : wr.cell? ⟨w.heap.size, 0, none⟩ = some (.int .i64 0) := cell_of_row _ _ _ _ _ _ hd.res
      have f1 : wr.cell? ⟨w.heap.size, 1, none⟩ = some (.int .i64 0) := cell_of_row _ _ _ _ _ _ hd.res
      have fz0 : wr.frozen? ⟨w.heap.size, 0, none⟩ = false := frozen_of_row _ _ _ _ _ hd.res
      have fz1 : wr.frozen? ⟨w.heap.size, 1, none⟩ = false := frozen_of_row _ _ _ _ _ hd.res
      have Hd := Lib.hid hd
      clear hd hbx hgab hi0
      go_wp2_with fail
      exact bodyPost_ret (v := .tuple #[.agg #[.int .i64 a, .int .i64 b], .bool true]) (by simp [results, Try.results20, go_sem, f0, f1]) rfl ⟨rfl, (Hd.out.below.setCell (Nat.le_refl _) _).setCell (Nat.le_refl _) _⟩
    | join l r =>
      obtain ⟨k0, k1, m, hbx, x0, x1⟩ := hd.box
      have el : (Tr.join l r).len = l.len + r.len := rfl
      have eh : (Tr.join l r).high = 1 + max l.high r.high := rfl
      have hlt := hd.lt
      have hle := hd.len
      have hhi := hd.high
      obtain ⟨bl, br, _, _⟩ := hd.bal
      have hat : (l.list ++ r.list).getD i' (0, 0) = (ga, gb) := hd.at_
      have hll := Tr.len_list l
      rw [el] at hlt hle
      rw [eh] at hhi
      have d0 : wr.cell? ⟨z, 0, none⟩ = some (.int .i64 5) := cell_of_row _ _ _ _ _ _ hbx
      have d1 : wr.cell? ⟨z, 1, none⟩ = some (.int .i64 k0) := cell_of_row _ _ _ _ _ _ hbx
      have H := Lib.hid (llen_is (K := K1) (p := p) G.out (by omega) x0 (by omega) hd.ars)
      have Hd := Lib.hid hd
      have Hbx := Lib.hid hbx
      have X0 := Lib.hid x0
      have X1 := Lib.hid x1
      have Hat := Lib.hid hat
      have Hll := Lib.hid hll
      clear hd hbx x0 x1 hat hll
      go_wp2_with fail
      refine H.out.mono ?_
      clear H
      rintro e w4 ⟨rfl, ha4, hk4⟩
      have Hbx4 := Lib.hid ((hk4.block _ (lt_heap Hbx.out)).trans Hbx.out)
      have b4 := Lib.hid (Hd.out.below.trans (hk4.mono Hd.out.below.size))
      have hres4 := Lib.hid ((hk4.block _ (lt_heap Hd.out.res)).trans Hd.out.res)
      have Ha4 := Lib.hid ha4
      have d2 : w4.cell? ⟨z, 2, none⟩ = some (.int .i64 k1) := cell_of_row _ _ _ _ _ _ Hbx4.out
      clear ha4 hk4 d0 d1
      by_cases hil : l.len ≤ i'
      · obtain ⟨nd, hnd, hcn⟩ := node_any G.out Hf.out X1.out br Ha4.out
        have Hn := Lib.hid hcn
        have Nd1 := Lib.hid hnd
        have e2 : ((i' - l.len : Nat) : Int) = (i' : Int) - (l.len : Int) := by omega
        have E2 := Lib.hid e2
        clear hcn hnd e2
        go_wp2_with fail
        refine Hn.out.mono ?_
        clear Hn
        rintro e w5 ⟨rfl, ha5, hk5⟩
        have Hbx5 := Lib.hid ((hk5.block _ (lt_heap Hbx4.out)).trans Hbx4.out)
        have b5 := Lib.hid (b4.out.trans (hk5.mono b4.out.size))
        have hres5 := Lib.hid ((hk5.block _ (lt_heap hres4.out)).trans hres4.out)
        have Ha5 := Lib.hid ha5
        have q0 : w5.cell? ⟨z, 0, none⟩ = some (.int .i64 5) := cell_of_row _ _ _ _ _ _ Hbx5.out
        have q1 : w5.cell? ⟨z, 1, none⟩ = some (.int .i64 k0) := cell_of_row _ _ _ _ _ _ Hbx5.out
        have q2 : w5.cell? ⟨z, 2, none⟩ = some (.int .i64 k1) := cell_of_row _ _ _ _ _ _ Hbx5.out
        have q3 : w5.cell? ⟨z, 3, none⟩ = some (.int .i64 0) := cell_of_row _ _ _ _ _ _ Hbx5.out
        have q4 : w5.cell? ⟨z, 4, none⟩ = some (.int .i64 0) := cell_of_row _ _ _ _ _ _ Hbx5.out
        have q5 : w5.cell? ⟨z, 5, none⟩ = some (.int .u64 m) := cell_of_row _ _ _ _ _ _ Hbx5.out
        have q6 : w5.cell? ⟨z, 6, none⟩ = some (.int .u64 0) := cell_of_row _ _ _ _ _ _ Hbx5.out
        have qf : ∀ j, w5.frozen? ⟨z, j, none⟩ = false := fun j => frozen_of_row _ _ _ _ _ Hbx5.out
        clear ha5 hk5
        go_wp2_with fail
        go_roundg (gk - 1)
        case rel => exact ⟨k1, i' - l.len, r, rfl, by rw [E2.out], set7_ars Ha5.out zK.out, set7_below b5.out (Nat.le_of_lt Zb.out), Nd1.out.box (set7 Hbx5.out), (set7_other (Nat.ne_of_lt Zb.out)).trans hres5.out, br, by omega, by omega, by rw [← Hat.out, List.getD_eq_getElem?_getD, List.getD_eq_getElem?_getD, List.getElem?_append_right (by rw [Hll.out]; exact hil), Hll.out], by omega⟩
        case measure => omega
      · have hil' : i' < l.len := by omega
        obtain ⟨nd, hnd, hcn⟩ := node_any G.out Hf.out X0.out bl Ha4.out
        have Hn := Lib.hid hcn
        have Nd1 := Lib.hid hnd
        clear hcn hnd hil
        go_wp2_with fail
        refine Hn.out.mono ?_
        clear Hn
        rintro e w5 ⟨rfl, ha5, hk5⟩
        have Hbx5 := Lib.hid ((hk5.block _ (lt_heap Hbx4.out)).trans Hbx4.out)
        have b5 := Lib.hid (b4.out.trans (hk5.mono b4.out.size))
        have hres5 := Lib.hid ((hk5.block _ (lt_heap hres4.out)).trans hres4.out)
        have Ha5 := Lib.hid ha5
        have q0 : w5.cell? ⟨z, 0, none⟩ = some (.int .i64 5) := cell_of_row _ _ _ _ _ _ Hbx5.out
        have q1 : w5.cell? ⟨z, 1, none⟩ = some (.int .i64 k0) := cell_of_row _ _ _ _ _ _ Hbx5.out
        have q2 : w5.cell? ⟨z, 2, none⟩ = some (.int .i64 k1) := cell_of_row _ _ _ _ _ _ Hbx5.out
        have q3 : w5.cell? ⟨z, 3, none⟩ = some (.int .i64 0) := cell_of_row _ _ _ _ _ _ Hbx5.out
        have q4 : w5.cell? ⟨z, 4, none⟩ = some (.int .i64 0) := cell_of_row _ _ _ _ _ _ Hbx5.out
        have q5 : w5.cell? ⟨z, 5, none⟩ = some (.int .u64 m) := cell_of_row _ _ _ _ _ _ Hbx5.out
        have q6 : w5.cell? ⟨z, 6, none⟩ = some (.int .u64 0) := cell_of_row _ _ _ _ _ _ Hbx5.out
        have qf : ∀ j, w5.frozen? ⟨z, j, none⟩ = false := fun j => frozen_of_row _ _ _ _ _ Hbx5.out
        clear ha5 hk5
        go_wp2_with fail
        go_roundg (gk - 1)
        case rel => exact ⟨k0, i', l, rfl, rfl, set7_ars Ha5.out zK.out, set7_below b5.out (Nat.le_of_lt Zb.out), Nd1.out.box (set7 Hbx5.out), (set7_other (Nat.ne_of_lt Zb.out)).trans hres5.out, bl, by omega, by omega, by rw [← Hat.out, List.getD_eq_getElem?_getD, List.getD_eq_getElem?_getD, List.getElem?_append_left (by rw [Hll.out]; exact hil')], by omega⟩
        case measure => omega
end
end Go.Proofs.Ytcdmebjggdhhdaa
