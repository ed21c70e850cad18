/- Lists in an arena whose counts are told: they stay while they are had; their nodes; what a change makes at most. Plain. -/
import Derived.Test.YtcdmebjggdhhdaaM8
import Derived.Test.YtcdmebjggdhhdaaWk
import Derived.Test.YtcdmebjggdhhdaaWb
import Derived.Test.YtcdmebjggdhhdaaM9
import Derived.Deep.LoopGhost
import Derived.Test.YtcdmebjggdhhdaaRows
import Derived.WalkKit
import Derived.ProofKit
import Derived.OpenShut
import Derived.Deep.Slices
namespace Go.Proofs.Ytcdmebjggdhhdaa
open Go.RowKit

theorem rep_congr {s s' : Ar} (hn : s'.n = s.n) (hu : s'.u = s.u) (hd : s'.nd = s.nd) : ∀ {t : Tr} {h : Int}, Rep s h t → Rep s' h t
  | .nil, _, r => r
  | .item a b, h, ⟨r1, r2, r3, r4⟩ => ⟨r1, by rw [hn]; exact r2, by rw [hu]; exact r3, by rw [hd]; exact r4⟩
  | .join l r, h, ⟨r1, r2, r3, k0, k1, r4, r5, r6⟩ => ⟨r1, by rw [hn]; exact r2, by rw [hu]; exact r3, k0, k1, by rw [hd]; exact r4, rep_congr hn hu hd r5, rep_congr hn hu hd r6⟩
theorem rep_pop {s : Ar} {B : Int} {L : List Int} (g : Good s B L) {i : Int} {r : List Int} (hw : s.wt = i :: r) : ∀ {t : Tr} {h : Int}, Has s h t → Rep (s.pop i r) h t
  | .nil, _, x => x.rep
  | .item a b, h, x => by
    obtain ⟨r1, r2, r3, r4⟩ := x.rep
    have hp := x.pos g r1
    obtain ⟨i1, i2, _, i4⟩ := g.ok.wt i (by rw [hw]; simp)
    have ne : h.toNat ≠ i.toNat := fun e => by
      have : s.count h = s.c h.toNat := if_neg (by omega)
      rw [this, e, i4] at hp
      omega
    exact ⟨r1, r2, (upd_ne _ _ ne).trans r3, (upd_ne _ _ ne).trans r4⟩
  | .join l t, h, x => by
    obtain ⟨h1, k0', k1', e, x0, x1⟩ := x.join g
    obtain ⟨r1, r2, r3, k0, k1, r4, r5, r6⟩ := x.rep
    have hk : (s.get h).1 = s.nd h.toNat := by unfold Ar.get; rw [if_neg (by rw [r3]; simp; omega)]
    rw [e, r4] at hk
    injection hk with _ ea eb
    subst ea eb
    have hp := x.pos g r1
    obtain ⟨i1, i2, _, i4⟩ := g.ok.wt i (by rw [hw]; simp)
    have ne : h.toNat ≠ i.toNat := fun e => by
      have : s.count h = s.c h.toNat := if_neg (by omega)
      rw [this, e, i4] at hp
      omega
    exact ⟨r1, r2, (upd_ne _ _ ne).trans r3, k0', k1', (upd_ne _ _ ne).trans r4, rep_pop g hw x0, rep_pop g hw x1⟩
theorem rep_workg {L : List Int} {t : Tr} {h : Int} (hm : h = 0 ∨ h ∈ L) : ∀ (m : Nat) {s : Ar}, Gd s L → Rep s h t → Rep (s.work m).1 h t
  | 0, _, _, r => r
  | m + 1, s, g, r => by
    unfold Ar.work
    split
    · exact r
    · rename_i i rr hw
      obtain ⟨B, G⟩ := g.good
      have hx : Has s h t := by
        rcases hm with rfl | hm
        · exact ⟨r, .inl rfl⟩
        · exact G.has r hm
      refine rep_workg hm m (gd_free1 g hw) ?_
      rw [free1_eq]
      exact rep_congr (drops_n _ _) (drops_u _ _) (drops_nd _ _) (rep_pop G hw hx)
theorem Lh.workg {s : Ar} {L : List Int} {h : Int} {l : List (Int × Int)} (x : Lh s h l) (g : Gd s L) (hm : h = 0 ∨ h ∈ L) (m : Nat) : Lh (s.work m).1 h l := by
  obtain ⟨t, a, b, c⟩ := x
  exact ⟨t, rep_workg hm m g a, b, c⟩
theorem Lh.dropg {s : Ar} {h : Int} {l : List (Int × Int)} (x : Lh s h l) (i : Int) : Lh (s.drop i).1 h l := x.ext (ext_drop s i)
theorem Lh.nil_iff {s : Ar} {h : Int} {l : List (Int × Int)} (x : Lh s h l) : h = 0 ↔ l = [] := by
  constructor
  · rintro rfl
    refine Classical.byContradiction fun hl => ?_
    have := (x.pos hl).1
    omega
  · rintro rfl
    exact x.zero
theorem Lh.range {s : Ar} {h : Int} {l : List (Int × Int)} (x : Lh s h l) : 0 ≤ h ∧ h ≤ s.n := by
  obtain ⟨t, a, _, _⟩ := x
  exact a.range
/-- The nodes of a list: no more than twice its length. -/
theorem rep_cover {s : Ar} : ∀ {t : Tr} {h : Int}, Rep s h t → t.Bal → ∃ l : List Int, l.length + 1 ≤ 2 * t.len ∧ (s.count h ≠ 0 → h ∈ l) ∧ ∀ x k, x ∈ l → k ∈ (s.nd x.toNat).kids → s.count k ≠ 0 → k ∈ l
  | .nil, _, _, b => b.elim
  | .item a b, h, r, _ => by
    obtain ⟨_, _, _, e⟩ := r
    refine ⟨[h], by show 1 + 1 ≤ 2 * 1; omega, fun _ => List.mem_singleton.2 rfl, fun x k hx hk hc => ?_⟩
    obtain rfl := List.mem_singleton.1 hx
    rw [e] at hk
    have : k = 0 := by simpa [Nd.kids] using hk
    subst this
    exact absurd (count_zero' s) hc
  | .join l r, h, x, b => by
    obtain ⟨_, _, _, k0, k1, e, x0, x1⟩ := x
    obtain ⟨l0, p1, p2, p3⟩ := rep_cover x0 b.1
    obtain ⟨l1, q1, q2, q3⟩ := rep_cover x1 b.2.1
    refine ⟨h :: (l0 ++ l1), ?_, fun _ => List.mem_cons_self, fun y k hy hk hc => ?_⟩
    · simp only [List.length_cons, List.length_append]
      show _ ≤ 2 * (l.len + r.len)
      omega
    · rcases List.mem_cons.1 hy with rfl | hy
      · rw [e] at hk
        have : k = k0 ∨ k = k1 ∨ k = 0 := by simpa [Nd.kids] using hk
        rcases this with rfl | rfl | rfl
        · exact List.mem_cons_of_mem _ (List.mem_append_left _ (p2 hc))
        · exact List.mem_cons_of_mem _ (List.mem_append_right _ (q2 hc))
        · exact absurd (count_zero' s) hc
      · rcases List.mem_append.1 hy with hy | hy
        · exact List.mem_cons_of_mem _ (List.mem_append_left _ (p3 _ _ hy hk hc))
        · exact List.mem_cons_of_mem _ (List.mem_append_right _ (q3 _ _ hy hk hc))
theorem Lh.cover {s : Ar} {h : Int} {xs : List (Int × Int)} (x : Lh s h xs) : ∃ l : List Int, l.length ≤ 2 * xs.length ∧ (s.count h ≠ 0 → h ∈ l) ∧ ∀ x k, x ∈ l → k ∈ (s.nd x.toNat).kids → s.count k ≠ 0 → k ∈ l := by
  obtain ⟨t, a, b, rfl⟩ := x
  rcases b with rfl | b
  · obtain rfl : h = 0 := a
    exact ⟨[], Nat.zero_le _, fun c => absurd (count_zero' s) c, fun _ _ hx => by cases hx⟩
  · obtain ⟨l, h1, h2, h3⟩ := rep_cover a b
    exact ⟨l, by rw [Tr.len_list]; omega, h2, h3⟩
theorem Lh.reach {s : Ar} {h : Int} {xs : List (Int × Int)} (x : Lh s h xs) {ys : List Int} (ha : Asc ys) (hy : ∀ x, x ∈ ys ↔ Rch s [h] x) : ys.length ≤ 2 * xs.length := by
  obtain ⟨l, h1, h2, h3⟩ := x.cover
  refine Nat.le_trans (nodup_sub ha.nodup fun x hx => ?_) h1
  have hr := (hy x).1 hx
  clear hx
  induction hr with
  | root a b =>
    obtain rfl := List.mem_singleton.1 a
    exact h2 b
  | kid _ a b ih => exact h3 _ _ ih a b
/-- Where none waits, no more are used than a closed list that holds the roots has. -/
theorem busy_cover {s : Ar} {L : List Int} (g : Gd s L) (hw : s.wt = []) {l : List Int} (h1 : ∀ h, h ∈ L → s.count h ≠ 0 → h ∈ l) (h2 : ∀ x k, x ∈ l → k ∈ (s.nd x.toNat).kids → s.count k ≠ 0 → k ∈ l) : s.busy ≤ l.length := by
  rw [g.busy_is]
  have : (usedL s).length ≤ l.length := nodup_sub (usedL_nodup s) fun x hx => by
    have hr := used_reached g hw hx
    clear hx
    induction hr with
    | root a b => exact h1 _ a b
    | kid _ a b ih => exact h2 _ _ ih a b
  omega
theorem jcost_le (x y : Tr) : jcost x y ≤ 3 := by
  unfold jcost
  split
  · omega
  · split <;> omega
theorem ccost_le (F : Tr → Tr) (m : Nat) : ∀ (t : Tr) (i : Nat), t.Bal → ccost F m t i ≤ 3 * (t.high - 1) + m
  | .nil, _, b => b.elim
  | .item _ _, _, _ => by show m ≤ _; omega
  | .join l r, i, b => by
    have hl := b.1.high
    have hr := b.2.1.high
    have il := ccost_le F m l i b.1
    have ir := ccost_le F m r (i - l.len) b.2.1
    have j1 := jcost_le l (tchange F r (i - l.len))
    have j2 := jcost_le (tchange F l i) r
    have ej : (Tr.join l r).high = 1 + max l.high r.high := rfl
    rw [ej]
    unfold ccost
    split <;> omega
/-- Two to the k is no more than so many. -/
theorem pow_fib : ∀ k, 1 ≤ k → 2 ^ k ≤ fibL (2 * k)
  | 0, h => by omega
  | 1, _ => by decide
  | k + 2, _ => by
    have h := pow_fib (k + 1) (by omega)
    have h1 : fibL (2 * (k + 2)) = fibL (2 * k + 3) + fibL (2 * k + 2) := fibL_step (2 * k + 1)
    have h2 : fibL (2 * k + 2) ≤ fibL (2 * k + 3) := fibL_mono (2 * k + 2)
    have e : 2 * (k + 1) = 2 * k + 2 := by omega
    rw [e] at h
    rw [h1, Nat.pow_succ]
    omega
theorem Tr.Bal.deep {t : Tr} (h : t.Bal) : t.high ≤ 2 * bl t.len := by
  have h1 := h.fib
  have h2 := (bl_is t.len).1
  have h3 := h.len
  have h4 : 1 ≤ bl t.len := bl_ge (k := 0) (by simpa using h3)
  have h5 := pow_fib (bl t.len) h4
  refine Classical.byContradiction fun c => ?_
  have := fibL_le (show 2 * bl t.len ≤ t.high by omega)
  omega
theorem bl_val : bl 1 = 1 ∧ bl 2 = 2 ∧ bl 3 = 2 ∧ bl 5 = 3 ∧ bl 8 = 4 ∧ bl 13 = 4 ∧ bl 21 = 5 ∧ bl 34 = 6 ∧ bl 55 = 6 ∧ bl 89 = 7 := by
  have h : ∀ n b, 2 ^ b ≤ n → n < 2 ^ (b + 1) → bl n = b + 1 := fun n b h1 h2 => by
    have a := bl_ge h1
    refine Classical.byContradiction fun c => ?_
    have := (bl_is n).2 (b + 1) (by omega)
    omega
  exact ⟨h 1 0 (by decide) (by decide), h 2 1 (by decide) (by decide), h 3 1 (by decide) (by decide), h 5 2 (by decide) (by decide), h 8 3 (by decide) (by decide), h 13 3 (by decide) (by decide), h 21 4 (by decide) (by decide), h 34 5 (by decide) (by decide), h 55 5 (by decide) (by decide), h 89 6 (by decide) (by decide)⟩
/-- What a change of a list of so many items makes at most, in the statement's own numbers. -/
theorem Tr.Bal.cost {t : Tr} (h : t.Bal) (hl : t.len ≤ 100) (F : Tr → Tr) {m : Nat} (hm : m ≤ 2) (i : Nat) : ccost F m t i ≤ 4 + 4 * bl t.len := by
  have hc := ccost_le F m t i h
  have hf := h.fib
  have h1 := h.high
  obtain ⟨b1, b2, b3, b5, b8, b13, b21, b34, b55, b89⟩ := bl_val
  have h10 : t.high ≤ 10 := by
    refine Classical.byContradiction fun c => ?_
    have := fibL_le (show 11 ≤ t.high by omega)
    have e : fibL 11 = 144 := by decide
    omega
  have m1 := fun n (hn : n ≤ t.len) => bl_mono hn
  have cases : t.high = 1 ∨ t.high = 2 ∨ t.high = 3 ∨ t.high = 4 ∨ t.high = 5 ∨ t.high = 6 ∨ t.high = 7 ∨ t.high = 8 ∨ t.high = 9 ∨ t.high = 10 := by omega
  rcases cases with e | e | e | e | e | e | e | e | e | e <;> rw [e] at hf hc
  · omega
  · have := m1 2 hf; omega
  · have := m1 3 hf; omega
  · have := m1 5 hf; omega
  · have := m1 8 hf; omega
  · have := m1 13 hf; omega
  · have := m1 21 hf; omega
  · have := m1 34 hf; omega
  · have := m1 55 hf; omega
  · have := m1 89 hf; omega
end Go.Proofs.Ytcdmebjggdhhdaa
namespace Go.Proofs.Ytcdmebjggdhhdaa
open Go.RowKit

/-- All numbers of a list are those of Go's int, and none is below nought. -/
def Rg (l : List (Int × Int)) : Prop := ∀ p, p ∈ l → (0 ≤ p.1 ∧ p.1 ≤ 9223372036854775807) ∧ (0 ≤ p.2 ∧ p.2 ≤ 9223372036854775807)
theorem Rg.at_ {l : List (Int × Int)} (h : Rg l) {i : Nat} (hi : i < l.length) : (0 ≤ (l.getD i (0, 0)).1 ∧ (l.getD i (0, 0)).1 ≤ 9223372036854775807) ∧ (0 ≤ (l.getD i (0, 0)).2 ∧ (l.getD i (0, 0)).2 ≤ 9223372036854775807) := by
  rw [List.getD_eq_getElem?_getD, List.getElem?_eq_getElem hi]
  exact h _ (List.getElem_mem _)
/-- The node of a tree stands in a box. -/
def NBox (W : World) (z : Nat) (s : Ar) : Tr → Prop
  | .nil => False
  | .item a b => W.heap[z]? = some (.cells #[.int .i64 4, .int .i64 0, .int .i64 0, .int .i64 0, .int .i64 0, .int .u64 a, .int .u64 b] 64 (0, 0))
  | .join l r => ∃ k0 k1 m : Int, W.heap[z]? = some (.cells #[.int .i64 5, .int .i64 k0, .int .i64 k1, .int .i64 0, .int .i64 0, .int .u64 m, .int .u64 0] 64 (0, 0)) ∧ Has s k0 l ∧ Has s k1 r
/-- While Get goes down. -/
structure Down (K : Nat → Prop) (p : Nat) (s : Ar) (z r : Nat) (g : Int × Int) (w : World) (k : Nat) (t : Tr) (i : Nat) (W : World) : Prop where
  ars : Ars W K p s
  below : Below w.heap.size w W
  box : NBox W z s t
  res : W.heap[r]? = some (.cells #[.int .i64 0, .int .i64 0] 30 (0, 0))
  bal : t.Bal
  len : t.len ≤ 1000
  lt : i < t.len
  at_ : t.list.getD i (0, 0) = g
  high : t.high ≤ k
theorem set7 {w : World} {z : Nat} {a0 a1 a2 a3 a4 a5 a6 b0 b1 b2 b3 b4 b5 b6 : Value} {ty : TypeId} (h : w.heap[z]? = some (.cells #[a0, a1, a2, a3, a4, a5, a6] ty (0, 0))) :
    (((((((w.setCell ⟨z, 0, none⟩ b0).setCell ⟨z, 1, none⟩ b1).setCell ⟨z, 2, none⟩ b2).setCell ⟨z, 3, none⟩ b3).setCell ⟨z, 4, none⟩ b4).setCell ⟨z, 5, none⟩ b5).setCell ⟨z, 6, none⟩ b6).heap[z]? = some (.cells #[b0, b1, b2, b3, b4, b5, b6] ty (0, 0)) := by
  rw [heap_setCell_same _ _ _ _ ty _ (heap_setCell_same _ _ _ _ ty _ (heap_setCell_same _ _ _ _ ty _ (heap_setCell_same _ _ _ _ ty _ (heap_setCell_same _ _ _ _ ty _ (heap_setCell_same _ _ _ _ ty _ (heap_setCell_same _ _ _ _ ty _ h))))))]
  rfl
theorem set7_other {w : World} {z b : Nat} {b0 b1 b2 b3 b4 b5 b6 : Value} (h : b ≠ z) :
    (((((((w.setCell ⟨z, 0, none⟩ b0).setCell ⟨z, 1, none⟩ b1).setCell ⟨z, 2, none⟩ b2).setCell ⟨z, 3, none⟩ b3).setCell ⟨z, 4, none⟩ b4).setCell ⟨z, 5, none⟩ b5).setCell ⟨z, 6, none⟩ b6).heap[b]? = w.heap[b]? := by
  rw [heap_setCell_other _ _ _ _ h, heap_setCell_other _ _ _ _ h, heap_setCell_other _ _ _ _ h, heap_setCell_other _ _ _ _ h, heap_setCell_other _ _ _ _ h, heap_setCell_other _ _ _ _ h, heap_setCell_other _ _ _ _ h]
theorem set7_ars {w : World} {K : Nat → Prop} {p : Nat} {s : Ar} {z : Nat} {b0 b1 b2 b3 b4 b5 b6 : Value} (h : Ars w K p s) (hz : K z) :
    Ars (((((((w.setCell ⟨z, 0, none⟩ b0).setCell ⟨z, 1, none⟩ b1).setCell ⟨z, 2, none⟩ b2).setCell ⟨z, 3, none⟩ b3).setCell ⟨z, 4, none⟩ b4).setCell ⟨z, 5, none⟩ b5).setCell ⟨z, 6, none⟩ b6) K p s :=
  ((((((h.setCell hz _).setCell hz _).setCell hz _).setCell hz _).setCell hz _).setCell hz _).setCell hz _
theorem set7_below {w W : World} {B z : Nat} {b0 b1 b2 b3 b4 b5 b6 : Value} (h : Below B w W) (hz : B ≤ z) :
    Below B w (((((((W.setCell ⟨z, 0, none⟩ b0).setCell ⟨z, 1, none⟩ b1).setCell ⟨z, 2, none⟩ b2).setCell ⟨z, 3, none⟩ b3).setCell ⟨z, 4, none⟩ b4).setCell ⟨z, 5, none⟩ b5).setCell ⟨z, 6, none⟩ b6) :=
  ((((((h.setCell hz _).setCell hz _).setCell hz _).setCell hz _).setCell hz _).setCell hz _).setCell hz _
theorem NBox.below {W W' : World} {z : Nat} {s : Ar} : ∀ {t : Tr}, NBox W z s t → Below W.heap.size W W' → NBox W' z s t
  | .nil, h, _ => h
  | .item _ _, h, hb => (hb.block _ (lt_heap h)).trans h
  | .join _ _, ⟨k0, k1, m, h, x⟩, hb => ⟨k0, k1, m, (hb.block _ (lt_heap h)).trans h, x⟩
theorem NBox.seven {W : World} {z : Nat} {s : Ar} : ∀ {t : Tr}, NBox W z s t → ∃ a0 a1 a2 a3 a4 a5 a6 : Value, W.heap[z]? = some (.cells #[a0, a1, a2, a3, a4, a5, a6] 64 (0, 0))
  | .nil, h => h.elim
  | .item _ _, h => ⟨_, _, _, _, _, _, _, h⟩
  | .join _ _, ⟨_, _, _, h, _⟩ => ⟨_, _, _, _, _, _, _, h⟩
/-- What list.node answers of a tree. -/
def NodeOf (s : Ar) : Tr → Nd → Prop
  | .nil, _ => False
  | .item a b, x => x = ⟨4, 0, 0, 0, 0, a, b⟩
  | .join l r, x => ∃ k0 k1 m, x = ⟨5, k0, k1, 0, 0, m, 0⟩ ∧ Has s k0 l ∧ Has s k1 r
theorem node_any {K : Nat → Prop} {p : Nat} {s : Ar} {B : Int} {L : List Int} {w : World} {h : Int} {t : Tr} (g : Good s B L) (hf : s.Fit) (x : Has s h t) (hb : t.Bal) (ha : Ars w K p s) :
    ∃ nd, NodeOf s t nd ∧ Calls Try.prog 30 #[.pointer (some ⟨p, 0, none⟩), .int .i64 h] w fun r w' => r = .returned (.tuple #[.agg #[.int .i64 nd.tag, .int .i64 nd.k0, .int .i64 nd.k1, .int .i64 nd.k2, .int .i64 nd.k3, .int .u64 nd.A, .int .u64 nd.B], .bool true]) ∧ Ars w' K p s ∧ Below w.heap.size w w' := by
  cases t with
  | nil => exact hb.elim
  | item a b => exact ⟨_, rfl, node_item g hf x ha⟩
  | join l r =>
    obtain ⟨h1, k0, k1, e, x0, x1⟩ := x.join g
    exact ⟨⟨5, k0, k1, 0, 0, _, 0⟩, ⟨k0, k1, _, rfl, x0, x1⟩, node_join g hf x e ha⟩
theorem NodeOf.box {W : World} {z : Nat} {s : Ar} {nd : Nd} : ∀ {t : Tr}, NodeOf s t nd → W.heap[z]? = some (.cells #[.int .i64 nd.tag, .int .i64 nd.k0, .int .i64 nd.k1, .int .i64 nd.k2, .int .i64 nd.k3, .int .u64 nd.A, .int .u64 nd.B] 64 (0, 0)) → NBox W z s t
  | .nil, h, _ => h
  | .item _ _, rfl, hb => hb
  | .join _ _, ⟨k0, k1, m, rfl, x⟩, hb => ⟨k0, k1, m, hb, x⟩
section
variable {K : Nat → Prop} {p : Nat} {s : Ar} {B : Int} {L : List Int} {w : World}
set_option maxRecDepth 100000 in
set_option maxHeartbeats 8000000 in
theorem get_some {h : Int} {t : Tr} {i : Nat} {ga gb : Int} (g : Good s B L) (hB : B ≤ 1000000000000) (hx : Has s h t) (hb : t.Bal) (hl : t.len ≤ 1000) (hi : i < t.len) (hg : t.list.getD i (0, 0) = (ga, gb)) (ra : 0 ≤ ga ∧ ga ≤ 9223372036854775807) (rb : 0 ≤ gb ∧ gb ≤ 9223372036854775807) (ha : Ars w K p s) :
    Calls Try.prog 20 #[.pointer (some ⟨p, 0, none⟩), .int .i64 h, .int .i64 i] w fun e w' => e = .returned (.tuple #[.agg #[.int .i64 ga, .int .i64 gb], .bool true]) ∧ Below w.heap.size w w' := by
  have hf := g.ok.fit (by omega)
  have HL := fun w ha => Lib.hid (llen_is (w := w) (K := K) (p := p) g (by omega) hx (by omega) ha)
  have Ha := Lib.hid ha
  have G := Lib.hid g
  have Hx := Lib.hid hx
  have Hf := Lib.hid hf
  have Hg := Lib.hid hg
  obtain ⟨r1, r2⟩ := ra
  obtain ⟨r3, r4⟩ := rb
  clear ha g hx hf hg
  go_enter Try.func20, Try.ntmps20
  go_wp2_with fail
  have hres := heap_alloc_new w (.cells #[.int .i64 0, .int .i64 0] 30)
  refine (HL _ (Ha.out.alloc _)).out.mono ?_
  clear HL
  rintro e w1 ⟨rfl, ha1, hk1⟩
  have hres1 := Lib.hid ((hk1.block _ (by simp)).trans hres)
  have b1 := Lib.hid (((Below.refl w.heap.size w).alloc (Nat.le_refl _) (.cells #[.int .i64 0, .int .i64 0] 30)).trans (hk1.mono (by simp)))
  clear hres hk1 ha1
  obtain ⟨nd, hnd, hcn⟩ := node_any G.out Hf.out Hx.out hb (Ha.out.below b1.out)
  have Hn := Lib.hid hcn
  have Nd1 := Lib.hid hnd
  clear hcn hnd
  go_wp2_with fail
  refine Hn.out.mono ?_
  clear Hn
  rintro e w2 ⟨rfl, ha2, hk2⟩
  have b2 := Lib.hid (b1.out.trans (hk2.mono b1.out.size))
  have hres2 := Lib.hid ((hk2.block _ (lt_heap hres1.out)).trans hres1.out)
  clear hk2 ha2 b1 hres1
  go_wp2_with fail
  have hz := heap_alloc_new w2 (.cells #[.int .i64 nd.tag, .int .i64 nd.k0, .int .i64 nd.k1, .int .i64 nd.k2, .int .i64 nd.k3, .int .u64 nd.A, .int .u64 nd.B] 64)
  have b3 := Lib.hid (b2.out.alloc b2.out.size (.cells #[.int .i64 nd.tag, .int .i64 nd.k0, .int .i64 nd.k1, .int .i64 nd.k2, .int .i64 nd.k3, .int .u64 nd.A, .int .u64 nd.B] 64))
  have hres3 := Lib.hid ((Below.heap_alloc w2 (.cells #[.int .i64 nd.tag, .int .i64 nd.k0, .int .i64 nd.k1, .int .i64 nd.k2, .int .i64 nd.k3, .int .u64 nd.A, .int .u64 nd.B] 64) _ (lt_heap hres2.out)).trans hres2.out)
  have zb : w.heap.size < w2.heap.size := lt_heap hres2.out
  generalize w2.alloc (.cells #[.int .i64 nd.tag, .int .i64 nd.k0, .int .i64 nd.k1, .int .i64 nd.k2, .int .i64 nd.k3, .int .u64 nd.A, .int .u64 nd.B] 64) = w3 at *
  obtain ⟨K1, hK1⟩ : ∃ K1 : Nat → Prop, K1 = fun b => K b ∨ b = w2.heap.size := ⟨_, rfl⟩
  have hD : Down K1 p s w2.heap.size w.heap.size (ga, gb) w t.high t i w3 := ⟨Ha.out.newK b3.out fun b e => by
    rw [hK1] at e
    rcases e with e | rfl
    · exact ⟨Nat.lt_of_lt_of_le (Ha.out.lt b e) b3.out.size, .inl e⟩
    · exact ⟨lt_heap hz, .inr (by omega)⟩, b3.out, Nd1.out.box hz, hres3.out, hb, hl, hi, Hg.out, Nat.le_refl _⟩
  have zK := Lib.hid (show K1 w2.heap.size by rw [hK1]; exact .inr rfl)
  have HD := Lib.hid hD
  have Zb := Lib.hid zb
  clear hK1 hD hz b3 hres3 b2 hres2 Ha Nd1 hb Hg
  generalize w2.heap.size = z at *
  go_loopg [1, 2] t.high (fun k h i W => ∃ (h' : Int) (i' : Nat) (t' : Tr), h = .int .i64 h' ∧ i = .int .i64 i' ∧ Down K1 p s z w.heap.size (ga, gb) w k t' i' W)
  case atStart => exact ⟨h, i, t, rfl, rfl, HD.out⟩
  case round =>
    obtain ⟨h', i', t', rfl, rfl, hd⟩ := hrel
    clear HD
    cases t' with
    | nil => exact hd.bal.elim
    | item a b =>
      have hbx : wr.heap[z]? = some (.cells #[.int .i64 4, .int .i64 0, .int .i64 0, .int .i64 0, .int .i64 0, .int .u64 a, .int .u64 b] 64 (0, 0)) := hd.box
      have hi0 : i' = 0 := by have := hd.lt; have e : (Tr.item a b).len = 1 := rfl; omega
      have hgab := hd.at_
      rw [hi0] at hgab
      obtain ⟨rfl, rfl⟩ : a = ga ∧ b = gb := by simpa [Tr.list] using hgab
      have d0 : wr.cell? ⟨z, 0, none⟩ = some (.int .i64 4) := cell_of_row _ _ _ _ _ _ hbx
      have d5 : wr.cell? ⟨z, 5, none⟩ = some (.int .u64 a) := cell_of_row _ _ _ _ _ _ hbx
      have d6 : wr.cell? ⟨z, 6, none⟩ = some (.int .u64 b) := cell_of_row _ _ _ _ _ _ hbx
      have f0 : wr.cell? ⟨w.heap.size, 0, none⟩ = some (.int .i64 0) := cell_of_row _ _ _ _ _ _ hd.res
      have f1 : wr.cell? ⟨w.heap.size, 1, none⟩ = some (.int .i64 0) := cell_of_row _ _ _ _ _ _ hd.res
      have fz0 : wr.frozen? ⟨w.heap.size, 0, none⟩ = false := frozen_of_row _ _ _ _ _ hd.res
      have fz1 : wr.frozen? ⟨w.heap.size, 1, none⟩ = false := frozen_of_row _ _ _ _ _ hd.res
      have Hd := Lib.hid hd
      clear hd hbx hgab hi0
      go_wp2_with fail
      exact bodyPost_ret (v := .tuple #[.agg #[.int .i64 a, .int .i64 b], .bool true]) (by simp [results, Try.results20, go_sem, f0, f1]) rfl ⟨rfl, (Hd.out.below.setCell (Nat.le_refl _) _).setCell (Nat.le_refl _) _⟩
    | join l r =>
      obtain ⟨k0, k1, m, hbx, x0, x1⟩ := hd.box
      have el : (Tr.join l r).len = l.len + r.len := rfl
      have eh : (Tr.join l r).high = 1 + max l.high r.high := rfl
      have hlt := hd.lt
      have hle := hd.len
      have hhi := hd.high
      obtain ⟨bl, br, _, _⟩ := hd.bal
      have hat : (l.list ++ r.list).getD i' (0, 0) = (ga, gb) := hd.at_
      have hll := Tr.len_list l
      rw [el] at hlt hle
      rw [eh] at hhi
      have d0 : wr.cell? ⟨z, 0, none⟩ = some (.int .i64 5) := cell_of_row _ _ _ _ _ _ hbx
      have d1 : wr.cell? ⟨z, 1, none⟩ = some (.int .i64 k0) := cell_of_row _ _ _ _ _ _ hbx
      have H := Lib.hid (llen_is (K := K1) (p := p) G.out (by omega) x0 (by omega) hd.ars)
      have Hd := Lib.hid hd
      have Hbx := Lib.hid hbx
      have X0 := Lib.hid x0
      have X1 := Lib.hid x1
      have Hat := Lib.hid hat
      have Hll := Lib.hid hll
      clear hd hbx x0 x1 hat hll
      go_wp2_with fail
      refine H.out.mono ?_
      clear H
      rintro e w4 ⟨rfl, ha4, hk4⟩
      have Hbx4 := Lib.hid ((hk4.block _ (lt_heap Hbx.out)).trans Hbx.out)
      have b4 := Lib.hid (Hd.out.below.trans (hk4.mono Hd.out.below.size))
      have hres4 := Lib.hid ((hk4.block _ (lt_heap Hd.out.res)).trans Hd.out.res)
      have Ha4 := Lib.hid ha4
      have d2 : w4.cell? ⟨z, 2, none⟩ = some (.int .i64 k1) := cell_of_row _ _ _ _ _ _ Hbx4.out
      clear ha4 hk4 d0 d1
      by_cases hil : l.len ≤ i'
      · obtain ⟨nd, hnd, hcn⟩ := node_any G.out Hf.out X1.out br Ha4.out
        have Hn := Lib.hid hcn
        have Nd1 := Lib.hid hnd
        have e2 : ((i' - l.len : Nat) : Int) = (i' : Int) - (l.len : Int) := by omega
        have E2 := Lib.hid e2
        clear hcn hnd e2
        go_wp2_with fail
        refine Hn.out.mono ?_
        clear Hn
        rintro e w5 ⟨rfl, ha5, hk5⟩
        have Hbx5 := Lib.hid ((hk5.block _ (lt_heap Hbx4.out)).trans Hbx4.out)
        have b5 := Lib.hid (b4.out.trans (hk5.mono b4.out.size))
        have hres5 := Lib.hid ((hk5.block _ (lt_heap hres4.out)).trans hres4.out)
        have Ha5 := Lib.hid ha5
        have q0 : w5.cell? ⟨z, 0, none⟩ = some (.int .i64 5) := cell_of_row _ _ _ _ _ _ Hbx5.out
        have q1 : w5.cell? ⟨z, 1, none⟩ = some (.int .i64 k0) := cell_of_row _ _ _ _ _ _ Hbx5.out
        have q2 : w5.cell? ⟨z, 2, none⟩ = some (.int .i64 k1) := cell_of_row _ _ _ _ _ _ Hbx5.out
        have q3 : w5.cell? ⟨z, 3, none⟩ = some (.int .i64 0) := cell_of_row _ _ _ _ _ _ Hbx5.out
        have q4 : w5.cell? ⟨z, 4, none⟩ = some (.int .i64 0) := cell_of_row _ _ _ _ _ _ Hbx5.out
        have q5 : w5.cell? ⟨z, 5, none⟩ = some (.int .u64 m) := cell_of_row _ _ _ _ _ _ Hbx5.out
        have q6 : w5.cell? ⟨z, 6, none⟩ = some (.int .u64 0) := cell_of_row _ _ _ _ _ _ Hbx5.out
        have qf : ∀ j, w5.frozen? ⟨z, j, none⟩ = false := fun j => frozen_of_row _ _ _ _ _ Hbx5.out
        clear ha5 hk5
        go_wp2_with fail
        go_roundg (gk - 1)
        case rel => exact ⟨k1, i' - l.len, r, rfl, by rw [E2.out], set7_ars Ha5.out zK.out, set7_below b5.out (Nat.le_of_lt Zb.out), Nd1.out.box (set7 Hbx5.out), (set7_other (Nat.ne_of_lt Zb.out)).trans hres5.out, br, by omega, by omega, by rw [← Hat.out, List.getD_eq_getElem?_getD, List.getD_eq_getElem?_getD, List.getElem?_append_right (by rw [Hll.out]; exact hil), Hll.out], by omega⟩
        case measure => omega
      · have hil' : i' < l.len := by omega
        obtain ⟨nd, hnd, hcn⟩ := node_any G.out Hf.out X0.out bl Ha4.out
        have Hn := Lib.hid hcn
        have Nd1 := Lib.hid hnd
        clear hcn hnd hil
        go_wp2_with fail
        refine Hn.out.mono ?_
        clear Hn
        rintro e w5 ⟨rfl, ha5, hk5⟩
        have Hbx5 := Lib.hid ((hk5.block _ (lt_heap Hbx4.out)).trans Hbx4.out)
        have b5 := Lib.hid (b4.out.trans (hk5.mono b4.out.size))
        have hres5 := Lib.hid ((hk5.block _ (lt_heap hres4.out)).trans hres4.out)
        have Ha5 := Lib.hid ha5
        have q0 : w5.cell? ⟨z, 0, none⟩ = some (.int .i64 5) := cell_of_row _ _ _ _ _ _ Hbx5.out
        have q1 : w5.cell? ⟨z, 1, none⟩ = some (.int .i64 k0) := cell_of_row _ _ _ _ _ _ Hbx5.out
        have q2 : w5.cell? ⟨z, 2, none⟩ = some (.int .i64 k1) := cell_of_row _ _ _ _ _ _ Hbx5.out
        have q3 : w5.cell? ⟨z, 3, none⟩ = some (.int .i64 0) := cell_of_row _ _ _ _ _ _ Hbx5.out
        have q4 : w5.cell? ⟨z, 4, none⟩ = some (.int .i64 0) := cell_of_row _ _ _ _ _ _ Hbx5.out
        have q5 : w5.cell? ⟨z, 5, none⟩ = some (.int .u64 m) := cell_of_row _ _ _ _ _ _ Hbx5.out
        have q6 : w5.cell? ⟨z, 6, none⟩ = some (.int .u64 0) := cell_of_row _ _ _ _ _ _ Hbx5.out
        have qf : ∀ j, w5.frozen? ⟨z, j, none⟩ = false := fun j => frozen_of_row _ _ _ _ _ Hbx5.out
        clear ha5 hk5
        go_wp2_with fail
        go_roundg (gk - 1)
        case rel => exact ⟨k0, i', l, rfl, rfl, set7_ars Ha5.out zK.out, set7_below b5.out (Nat.le_of_lt Zb.out), Nd1.out.box (set7 Hbx5.out), (set7_other (Nat.ne_of_lt Zb.out)).trans hres5.out, bl, by omega, by omega, by rw [← Hat.out, List.getD_eq_getElem?_getD, List.getD_eq_getElem?_getD, List.getElem?_append_left (by rw [Hll.out]; exact hil')], by omega⟩
        case measure => omega
end
end Go.Proofs.Ytcdmebjggdhhdaa
namespace Go.Proofs.Ytcdmebjggdhhdaa
open Go.ChangeShapes Go.WideShapes Go.ChangeAt Go.RowKit

theorem own_ : ownKnob Try.prog.godebug = none := by kernel_rfl
theorem laid_ : laidOutB Try.prog = true := by kernel_rfl

section
variable {H : Type} {enc : TypeId × Value → H} {P : Program}
/-- All arguments read in a world in which nothing old has turned as they did. -/
theorem trodAll_stays (hl : laidOutB P = true) {W W' : World} (hb : Below W.heap.size W W') (sp : Nat → Bool) : ∀ {ts : List TypeId} {vs : List Value} {ds : List (DataW H)} {ps : List MemPlace},
    (∀ t ∈ ts, P.readableRec t = true ∧ t < P.types.size) → DataW.TrodAll enc P W 0 (fun _ => true) true ts vs ds ps → (∀ x ∈ ps, x.block < W.heap.size) → (∀ x ∈ ps, sp x.block = true) →
    DataW.TrodAll enc P W' 0 sp true ts vs ds ps
  | [], vs, ds, ps, _, h, _, _ => by
    obtain ⟨rfl, rfl, rfl⟩ := trodAll_nil h
    exact trodAll_mk0
  | t :: ts, vs, ds, ps, ht, h, hlt, hsp => by
    obtain ⟨v, vs', d, ds', p, q, rfl, rfl, rfl, h0, h1⟩ := trodAll_cons h
    have hp : ∀ x ∈ p, x.block < W.heap.size := fun x hx => hlt x (List.mem_append_left _ hx)
    have hq : ∀ x ∈ q, x.block < W.heap.size := fun x hx => hlt x (List.mem_append_right _ hx)
    exact trodAll_cons_mk (WideElems.Trod_stays hl (ht t (by simp)).1 (ht t (by simp)).2 h0 (fun x hx => hb.same (hp x hx)) (fun x hx => hsp x (List.mem_append_left _ hx)))
      (trodAll_stays hl hb sp (fun u hu => ht u (List.mem_cons_of_mem _ hu)) h1 hq (fun x hx => hsp x (List.mem_append_right _ hx)))

/-- The places of the arguments alone: no variable is named. -/
theorem whole_args {ts : List TypeId} {apart : Bool} {w : World} {vs : List Value} {ds gs : List (DataW H)} {ps : List MemPlace} (h : DataW.Whole enc P ts [] apart w vs ds gs ps) :
    gs = [] ∧ DataW.TrodAll enc P w 0 (fun _ => true) true ts vs ds ps ∧ w.noneFrozen ps ∧ (apart = true → ps.Nodup) := by
  obtain ⟨p, q, hA, hV, rfl, hfz, hnd⟩ := h
  obtain ⟨rfl, rfl⟩ := trodVars_none hV
  rw [List.append_nil] at hfz hnd ⊢
  exact ⟨rfl, hA, hfz, hnd⟩

theorem law_post {f : Func} {s : ChangeSpec} {apart fresh handsOn again : Bool} {W W' : World} {args : Array Value} {ds gs : List (DataW H)} {before : List MemPlace} {tb : TypeId}
    (hl : laidOutB P = true) (hts : (f.params.toList.all fun t => P.readableRec t && decide (t < P.types.size)) = true) (hvars : s.vars = []) (hW : DataW.Whole enc P f.params.toList s.vars apart W args.toList ds gs before) (hb : Below W.heap.size W W')
    (hr : f.resultTypes = #[tb]) (hu : P.underlying tb = some .bool) (hfn : (s.fn H (ds ++ [])).results = [.lit (.bool true)] ∧ (s.fn H (ds ++ [])).args = ds ∧ (s.fn H (ds ++ [])).vars = []) :
    s.post enc P f apart fresh handsOn again W args (.bool true) W' := by
  have hts' : ∀ t ∈ f.params.toList, P.readableRec t = true ∧ t < P.types.size := fun t ht => by
    have := List.all_eq_true.1 hts t ht
    simpa using this
  have hlt := hW.lt
  have hW0 := hW
  rw [hvars] at hW0
  obtain ⟨rfl, hA, hfz, hnd⟩ := whole_args hW0
  obtain ⟨e1, e2, e3⟩ := hfn
  have hone : (Value.bool true).resultList f.resultTypes.size = [.bool true] := by rw [hr]; rfl
  have hbool : ∀ (b : Nat) (sp : Nat → Bool) (hd : Bool), DataW.TrodAll enc P W' b sp hd f.resultTypes.toList ((Value.bool true).resultList f.resultTypes.size) (s.fn H (ds ++ [])).results [] := by
    intro b sp hd
    rw [hone, hr, e1]
    exact trodAll_mk1 (shut_bool hu _)
  have hargs : ∀ sp : Nat → Bool, (∀ p ∈ before, sp p.block = true) → DataW.TrodAll enc P W' 0 sp true f.params.toList args.toList (s.fn H (ds ++ [])).args before := by
    intro sp hsp
    rw [e2]
    exact trodAll_stays hl hb sp hts' hA hlt hsp
  have hold : ∀ p ∈ before, (fun b => decide (b < W.heap.size)) p.block = true := fun p hp => by simpa using hlt p hp
  have hv : ∀ sp : Nat → Bool, DataW.TrodVars enc P W' sp s.vars (s.fn H (ds ++ [])).vars [] := by
    intro sp
    rw [hvars, e3]
    exact rfl
  refine ⟨ds, [], before, [], before, [], hW, hbool _ _ _, hargs _ hold, hv _, hb.frame _, fun _ => ⟨ok_one hr (by rw [show (1 : Nat) = f.resultTypes.size by rw [hr]; rfl]; exact hone) (okWide_bool_mk hu _), _, _, [] ++ before ++ [], ⟨[] ++ before, [], trodAll_append (hargs _ (fun _ _ => rfl)) (hbool _ _ _), hv _, rfl, ?_, ?_⟩, ?_⟩⟩
  · intro b off hp
    have hp' : MemPlace.cell b off ∈ before := by simpa using hp
    have hz := hfz b off hp'
    have := hb.frozen (p := ⟨b, off, none⟩) (hlt _ hp')
    rw [this]
    exact hz
  · intro ha
    simpa using hnd ha
  · intro p hp _
    simpa using hp
end
end Go.Proofs.Ytcdmebjggdhhdaa
namespace Go.Proofs.Ytcdmebjggdhhdaa
open Go.ChangeShapes Go.WideShapes Go.ChangeAt Go.RowKit

/-- The value reads as the numbers xs. -/
structure IntsArg (w : World) (v : Value) (xs : List Int) : Prop where
  val : ∃ a c, v = .slice a xs.length c
  cell : ∀ i, i < xs.length → ∃ b off c, v = .slice (some ⟨b, off, none⟩) xs.length c ∧ b < w.heap.size ∧ xs.length ≤ c ∧ ∀ j, j < xs.length → w.cell? ⟨b, off + j, none⟩ = some (.int .i64 (xs.getD j 0))
  wf : ∀ x, x ∈ xs → (Lit.int .i64 x).wf = true
  len : xs.length ≤ maxLen

set_option maxRecDepth 100000 in
theorem ints_arg {H : Type} {enc : TypeId × Value → H} {W : World} {v : Value} {d : DataW H} {ps : List MemPlace} {r : Reach} {b0 : Nat} (hv : Value.okWide Try.prog W r b0 35 v)
    (h : DataW.Trod enc Try.prog W 0 (fun _ => true) true 35 v d ps) : ∃ xs, IntsArg W v xs := by
  obtain ⟨a0, len, cap, rfl⟩ := okWide_slice Try.underlying35 hv
  obtain ⟨fuel, hf⟩ := h
  rcases open_ints Try.underlying35 Try.underlying3 (by kernel_rfl) hf with ⟨hcs, _⟩ | ⟨a, len', cap', zs, hcs, _, hl, hm, hz, _, hcell, hwz⟩
  · simp [Value.cells] at hcs
    obtain ⟨rfl, rfl, rfl⟩ := hcs
    exact ⟨[], ⟨_, _, rfl⟩, fun i hi => absurd hi (Nat.not_lt_zero _), fun x hx => (by cases hx), Nat.zero_le _⟩
  · simp [Value.cells] at hcs
    obtain ⟨rfl, rfl, rfl⟩ := hcs
    simp only [if_true] at hz
    have hlen : (zs.take len).length = len := by rw [List.length_take]; omega
    refine ⟨zs.take len, ⟨some a, cap, by rw [hlen]⟩, fun i hi => ?_, fun x hx => hwz x (List.mem_of_mem_take hx), by rw [hlen]; omega⟩
    rw [hlen] at hi ⊢
    have h0 := hcell 0 (by omega)
    have hs : a.spot = none := by
      have := World.cell?_spot h0
      simpa [Addr.add] using this
    obtain ⟨b, off, spot⟩ := a
    dsimp only at hs
    subst hs
    refine ⟨b, off, cap, rfl, ?_, hl, fun j hj => ?_⟩
    · have := block_lt_of_cell h0
      simpa [Addr.add] using this
    · have := hcell j (by omega)
      rw [Addr.add_lit] at this
      rw [this]
      have e : (zs.take len).getD j 0 = zs.getD j 0 := by simp [List.getD, hj]
      rw [e]
end Go.Proofs.Ytcdmebjggdhhdaa
namespace Go.Proofs.Ytcdmebjggdhhdaa
open Go.ChangeShapes Go.WideShapes Go.ChangeAt Go.RowKit

inductive Lk where
  | int (k : IntKind)
  | bool
def Lk.ok : Lk → Value → Prop
  | .int k, v => ∃ n, v = .int k n ∧ (Lit.int k n).wf = true
  | .bool, v => ∃ b, v = .bool b
def flatFields (P : Program) (g : TypeId → Option (List Lk)) : List Field → Nat → Option (List Lk)
  | [], _ => some []
  | f :: r, o => match g f.type, flatFields P g r (o + P.cellsOf f.type) with
    | some a, some b => if f.offset = o ∧ P.cellsOf f.type = a.length then some (a ++ b) else none
    | _, _ => none
/-- The kinds of a type's cells. -/
def flat (P : Program) : Nat → TypeId → Option (List Lk)
  | 0, _ => none
  | n + 1, t => match P.underlying t with
    | some .bool => some [.bool]
    | some (.int k) => some [.int k]
    | some (.struct fs) => match flatFields P (flat P n) fs.toList 0 with
      | some a => if P.cellsOf t = a.length then some a else none
      | none => none
    | some (.array m e) => match flat P n e with
      | some a => if P.cellsOf t = m * a.length ∧ P.cellsOf e = a.length then some (List.replicate m a).flatten else none
      | none => none
    | _ => none
inductive Oks : List Lk → List Value → Prop
  | nil : Oks [] []
  | cons {k v ks vs} : Lk.ok k v → Oks ks vs → Oks (k :: ks) (v :: vs)
theorem Oks.append {a b : List Lk} {x y : List Value} (h : Oks a x) (k : Oks b y) : Oks (a ++ b) (x ++ y) := by
  induction h with
  | nil => exact k
  | cons h _ ih => exact .cons h ih
theorem Oks.length {a : List Lk} {x : List Value} (h : Oks a x) : x.length = a.length := by
  induction h with
  | nil => rfl
  | cons _ _ ih => simp [ih]
section
variable {H : Type} {enc : TypeId × Value → H} {P : Program} {w : World} {base : Nat} {spare : Nat → Bool} {held : Bool}
theorem flat_fields {g : TypeId → Option (List Lk)} {cs : List Value} (hg : ∀ t c ks x m, g t = some ks → DataW.trod enc P w base spare held m t c = some x → Oks ks c) :
    ∀ (fs : List Field) (o : Nat) (ks : List Lk), flatFields P g fs o = some ks → (∀ f, f ∈ fs → ∃ m x, DataW.trod enc P w base spare held m f.type ((cs.drop f.offset).take (P.cellsOf f.type)) = some x) →
      Oks ks ((cs.drop o).take ks.length)
  | [], o, ks, h, _ => by
    simp only [flatFields, Option.some.injEq] at h
    subst h
    simpa using Oks.nil
  | f :: r, o, ks, h, hf => by
    unfold flatFields at h
    cases ha : g f.type with
    | none => rw [ha] at h; simp at h
    | some a =>
      cases hb : flatFields P g r (o + P.cellsOf f.type) with
      | none => rw [ha, hb] at h; simp at h
      | some b =>
        rw [ha, hb] at h
        simp only at h
        split at h
        · rename_i hc
          obtain ⟨ho, hl⟩ := hc
          injection h with h
          subst h
          obtain ⟨m, x, hx⟩ := hf f (by simp)
          have h1 := hg _ _ _ _ _ ha hx
          have h2 := flat_fields hg r _ b hb fun f' hf' => hf f' (List.mem_cons_of_mem _ hf')
          have := h1.append h2
          rw [ho, hl] at this
          have e : (cs.drop o).take a.length ++ (cs.drop (o + a.length)).take b.length = (cs.drop o).take (a ++ b).length := by
            rw [List.length_append, List.take_add, List.drop_drop]
          rwa [e] at this
        · cases h
theorem flat_array {cs : List Value} {a : List Lk} : ∀ (m o : Nat), (∀ i, i < m → Oks a ((cs.drop ((o + i) * a.length)).take a.length)) → Oks (List.replicate m a).flatten ((cs.drop (o * a.length)).take (m * a.length))
  | 0, o, _ => by simpa using Oks.nil
  | m + 1, o, h => by
    have h1 := h 0 (by omega)
    have h2 := flat_array (cs := cs) (a := a) m (o + 1) fun i hi => by have := h (i + 1) (by omega); rwa [show o + (i + 1) = o + 1 + i by omega] at this
    have := h1.append h2
    rw [Nat.add_zero] at this
    have e : (cs.drop (o * a.length)).take a.length ++ (cs.drop ((o + 1) * a.length)).take (m * a.length) = (cs.drop (o * a.length)).take ((m + 1) * a.length) := by
      rw [show (m + 1) * a.length = a.length + m * a.length by rw [Nat.add_mul]; omega, List.take_add, List.drop_drop, show (o + 1) * a.length = o * a.length + a.length by rw [Nat.add_mul]; omega]
    rw [e] at this
    rw [List.replicate_succ, List.flatten_cons]
    exact this
theorem flat_oks : ∀ (n : Nat) (t : TypeId) (cs : List Value) (ks : List Lk) (x : DataW H × List MemPlace) (m : Nat), flat P n t = some ks → DataW.trod enc P w base spare held m t cs = some x → Oks ks cs
  | 0, t, cs, ks, x, m, h, _ => by simp [flat] at h
  | n + 1, t, cs, ks, x, m, h, hx => by
    unfold flat at h
    split at h
    · rename_i hu
      injection h with h
      subst h
      obtain ⟨b, rfl, _⟩ := DataW.trod_bool hu hx
      exact .cons ⟨b, rfl⟩ .nil
    · rename_i k hu
      injection h with h
      subst h
      obtain ⟨i, rfl, _, hw⟩ := DataW.trod_int hu hx
      exact .cons ⟨i, rfl, hw⟩ .nil
    · rename_i fs hu
      obtain ⟨xs, m', hm', hx', hlen, hl, hf⟩ := DataW.trod_struct hu hx
      split at h
      · rename_i a ha
        split at h
        · rename_i hc
          injection h with h
          subst h
          have := flat_fields (cs := cs) (fun t c ks x m h1 h2 => flat_oks n t c ks x m h1 h2) _ _ _ ha fun f hf' => by
            obtain ⟨j, hj, hjf⟩ := List.getElem_of_mem hf'
            have hj' : j < fs.size := by simpa using hj
            have h1 := hf j f (by rw [Array.getElem?_eq_getElem hj']; simpa using hjf)
            rw [List.getElem?_eq_getElem (by omega)] at h1
            exact ⟨m', _, h1⟩
          rw [List.drop_zero, List.take_of_length_le (by omega)] at this
          exact this
        · cases h
      · cases h
    · rename_i k e hu
      obtain ⟨xs, m', hm', hx', hlen, hl, hf⟩ := DataW.trod_array hu hx
      split at h
      · rename_i a ha
        split at h
        · rename_i hc
          injection h with h
          subst h
          obtain ⟨c1, c2⟩ := hc
          have := flat_array (cs := cs) (a := a) k 0 fun i hi => by
            have h1 := hf i hi
            rw [List.getElem?_eq_getElem (by omega), c2] at h1
            rw [Nat.zero_add]
            exact flat_oks n e _ _ _ m' ha h1
          rw [Nat.zero_mul, List.drop_zero, List.take_of_length_le (by omega)] at this
          exact this
        · cases h
      · cases h
    · cases h
end

/-- The value reads as m structs of kinds ks; the cells of element i are row i. -/
structure FlatArg (w : World) (v : Value) (ks : List Lk) (m : Nat) (row : Nat → List Value) : Prop where
  val : ∃ a c, v = .slice a m c
  cell : ∀ i, i < m → ∃ b off c, v = .slice (some ⟨b, off, none⟩) m c ∧ b < w.heap.size ∧ m ≤ c ∧ ∀ i, i < m → ∀ j, j < ks.length → w.cell? ⟨b, off + (i * ks.length + j), none⟩ = (row i)[j]?
  ok : ∀ i, i < m → Oks ks (row i)
  len : m ≤ maxLen
set_option maxRecDepth 100000 in
theorem flat_arg {H : Type} {enc : TypeId × Value → H} {W : World} {v : Value} {d : DataW H} {ps : List MemPlace} {r : Reach} {b0 : Nat} {t e : TypeId} {ks : List Lk} {n : Nat} (ht : Try.prog.underlying t = some (.slice e)) (hk : flat Try.prog n e = some ks) (hl : Try.prog.cellsOf e = ks.length) (h0 : 0 < ks.length)
    (hv : Value.okWide Try.prog W r b0 t v) (h : DataW.Trod enc Try.prog W 0 (fun _ => true) true t v d ps) : ∃ m row, FlatArg W v ks m row := by
  obtain ⟨a0, len, cap, rfl⟩ := okWide_slice ht hv
  obtain ⟨fuel, hf⟩ := h
  rcases Deep.open_slice ht hf with ⟨hcs, _⟩ | ⟨a, len', cap', m', n', D, Pl, hcs, _, hl', hm, hmm, _, hcell⟩
  · simp [Value.cells] at hcs
    obtain ⟨rfl, rfl, rfl⟩ := hcs
    exact ⟨0, fun _ => [], ⟨_, _, rfl⟩, fun i hi => absurd hi (Nat.not_lt_zero _), fun i hi => absurd hi (Nat.not_lt_zero _), Nat.zero_le _⟩
  · simp [Value.cells] at hcs
    obtain ⟨rfl, rfl, rfl⟩ := hcs
    simp only [if_true] at hmm
    have hc : ∀ i, ∃ cs', i < len → W.cells? 0 (a.add (i * Try.prog.cellsOf e)) (Try.prog.cellsOf e) = some cs' ∧ Oks ks cs' := by
      intro i
      by_cases hi : i < len
      · obtain ⟨cs', h1, h2⟩ := hcell i (by omega)
        exact ⟨cs', fun _ => ⟨h1, flat_oks _ _ _ _ _ _ hk h2⟩⟩
      · exact ⟨[], fun h => absurd h hi⟩
    obtain ⟨row, hrow⟩ := Classical.axiomOfChoice hc
    refine ⟨len, row, ⟨some a, cap, rfl⟩, fun i hi => ?_, fun i hi => (hrow i hi).2, by omega⟩
    obtain ⟨h1, h2⟩ := hrow 0 (by omega)
    obtain ⟨_, hl1, hat⟩ := World.cells?_some h1
    have h00 := hat 0 (by omega)
    have hs : a.spot = none ∧ a.block < W.heap.size := by
      rw [List.getElem?_eq_getElem (by rw [hl1]; omega)] at h00
      have e1 := World.cell?_spot h00
      have e2 := block_lt_of_cell h00
      exact ⟨by simpa [Addr.add] using e1, by simpa [Addr.add] using e2⟩
    obtain ⟨b, off, spot⟩ := a
    obtain ⟨hs1, hs2⟩ := hs
    dsimp only at hs1 hs2
    subst hs1
    refine ⟨b, off, cap, rfl, hs2, hl', fun i hi j hj => ?_⟩
    obtain ⟨h1, h2⟩ := hrow i hi
    obtain ⟨_, hl1, hat⟩ := World.cells?_some h1
    have := hat j (by omega)
    rw [hl] at this
    rw [← this, Go.Deep.add_add, Addr.add_lit]
theorem Oks.get {ks : List Lk} {vs : List Value} (h : Oks ks vs) : ∀ {j : Nat} {k : Lk}, ks[j]? = some k → ∃ v, vs[j]? = some v ∧ k.ok v := by
  induction h with
  | nil => intro j k hk; simp at hk
  | cons hk _ ih =>
    intro j k hj
    cases j with
    | zero => simp at hj; subst hj; exact ⟨_, rfl, hk⟩
    | succ j => exact ih (by simpa using hj)
end Go.Proofs.Ytcdmebjggdhhdaa
namespace Go.Proofs.Ytcdmebjggdhhdaa
open Go.RowKit

section
variable {K : Nat → Prop} {p : Nat} {s : Ar} {B : Int} {L : List Int} {w : World}
theorem Lh.has {h : Int} {l : List (Int × Int)} (x : Lh s h l) (g : Good s B L) (fm : h = 0 ∨ Firm s L h) : ∃ t, Has s h t ∧ t.Fine ∧ t.list = l ∧ t.len = l.length := by
  obtain ⟨t, r, f, rfl⟩ := x
  refine ⟨t, ?_, f, rfl, (Tr.len_list t).symm⟩
  rcases fm with rfl | fm
  · exact ⟨r, .inl rfl⟩
  · exact fm.has g r
theorem len_is {h : Int} {l : List (Int × Int)} (g : Good s B L) (hB : B ≤ 1000000000000) (hx : Lh s h l) (fm : h = 0 ∨ Firm s L h) (hl : l.length ≤ 1000) (ha : Ars w K p s) :
    Calls Try.prog 8 #[.pointer (some ⟨p, 0, none⟩), .int .i64 h] w fun r w' => r = .returned (.int .i64 l.length) ∧ Ars w' K p s ∧ Below w.heap.size w w' := by
  obtain ⟨t, x, f, e1, e2⟩ := hx.has g fm
  rw [← e2] at hl ⊢
  exact llen_is g (by omega) x (by omega) ha
theorem get_item {h : Int} {l : List (Int × Int)} {i : Nat} (g : Good s B L) (hB : B ≤ 1000000000000) (hx : Lh s h l) (fm : h = 0 ∨ Firm s L h) (hl : l.length ≤ 1000) (hr : Rg l) (hi : i < l.length) (ha : Ars w K p s) :
    Calls Try.prog 20 #[.pointer (some ⟨p, 0, none⟩), .int .i64 h, .int .i64 i] w fun e w' => e = .returned (.tuple #[.agg #[.int .i64 (l.getD i (0, 0)).1, .int .i64 (l.getD i (0, 0)).2], .bool true]) ∧ Below w.heap.size w w' := by
  obtain ⟨t, x, f, e1, e2⟩ := hx.has g fm
  obtain ⟨ra, rb⟩ := hr.at_ hi
  rcases f with rfl | f
  · rw [← e2] at hi; exact absurd hi (Nat.not_lt_zero _)
  · exact get_some g hB x f (by omega) (by omega) (by rw [e1]) ra rb ha
set_option maxHeartbeats 1000000 in
theorem get_no {h i : Int} {l : List (Int × Int)} (g : Good s B L) (hB : B ≤ 1000000000000) (hx : Lh s h l) (fm : h = 0 ∨ Firm s L h) (hl : l.length ≤ 1000) (hi : i < 0 ∨ l.length ≤ i) (ha : Ars w K p s) :
    Calls Try.prog 20 #[.pointer (some ⟨p, 0, none⟩), .int .i64 h, .int .i64 i] w fun e w' => e = .returned (.tuple #[.agg #[.int .i64 0, .int .i64 0], .bool false]) ∧ Below w.heap.size w w' := by
  have HL := fun w ha => Lib.hid (len_is (w := w) (K := K) (p := p) g hB hx fm hl ha)
  have Ha := Lib.hid ha
  clear ha g hx fm
  generalize l.length = n at *
  by_cases h0 : i < 0
  · clear hi HL
    go_enter Try.func20, Try.ntmps20
    go_wp2_with fail
    exact bodyPost_ret (v := .tuple #[.agg #[.int .i64 0, .int .i64 0], .bool false]) (by simp [results, Try.results20, go_sem]) rfl ⟨rfl, (Below.refl _ _).alloc (Nat.le_refl _) _⟩
  · have h1 : (n : Int) ≤ i := by omega
    clear hi
    go_enter Try.func20, Try.ntmps20
    go_wp2_with fail
    have hres := heap_alloc_new w (.cells #[.int .i64 0, .int .i64 0] 30)
    refine (HL _ (Ha.out.alloc _)).out.mono ?_
    clear HL
    rintro e w1 ⟨rfl, ha1, hk1⟩
    have hres1 := (hk1.block _ (by simp)).trans hres
    have b1 := Lib.hid (((Below.refl w.heap.size w).alloc (Nat.le_refl _) (.cells #[.int .i64 0, .int .i64 0] 30)).trans (hk1.mono (by simp)))
    have f0 : w1.cell? ⟨w.heap.size, 0, none⟩ = some (.int .i64 0) := cell_of_row _ _ _ _ _ _ hres1
    have f1 : w1.cell? ⟨w.heap.size, 1, none⟩ = some (.int .i64 0) := cell_of_row _ _ _ _ _ _ hres1
    have fz0 : w1.frozen? ⟨w.heap.size, 0, none⟩ = false := frozen_of_row _ _ _ _ _ hres1
    have fz1 : w1.frozen? ⟨w.heap.size, 1, none⟩ = false := frozen_of_row _ _ _ _ _ hres1
    clear hres hk1 ha1 hres1
    go_wp2_with fail
    exact bodyPost_ret (v := .tuple #[.agg #[.int .i64 0, .int .i64 0], .bool false]) (by simp [results, Try.results20, go_sem, f0, f1]) rfl ⟨rfl, (b1.out.setCell (Nat.le_refl _) _).setCell (Nat.le_refl _) _⟩
end

def itemCells (l : List (Int × Int)) : List Value := l.flatMap fun x => [.int .i64 x.1, .int .i64 x.2]
theorem itemCells_len (l : List (Int × Int)) : (itemCells l).length = l.length * 2 := by
  induction l with
  | nil => rfl
  | cons a r ih => simp only [itemCells, List.flatMap_cons, List.length_append, List.length_cons, List.length_nil] at ih ⊢; omega
theorem itemCells_at : ∀ (l : List (Int × Int)) {i : Nat}, i < l.length → (itemCells l)[i * 2]? = some (.int .i64 (l.getD i (0, 0)).1) ∧ (itemCells l)[i * 2 + 1]? = some (.int .i64 (l.getD i (0, 0)).2)
  | [], i, h => absurd h (Nat.not_lt_zero _)
  | a :: r, 0, _ => ⟨rfl, rfl⟩
  | a :: r, i + 1, h => by
    have := itemCells_at r (i := i) (by simpa using h)
    rw [show (i + 1) * 2 = i * 2 + 2 by omega]
    exact this
theorem itemCells_snoc (l : List (Int × Int)) (x : Int × Int) : itemCells (l ++ [x]) = itemCells l ++ [.int .i64 x.1, .int .i64 x.2] := by simp [itemCells]
/-- The slice holds the items. -/
structure Items (w : World) (v : Value) (l : List (Int × Int)) : Prop where
  val : ∃ a c, v = .slice a l.length c
  cell : ∀ i, i < l.length → ∃ b off c, v = .slice (some ⟨b, off, none⟩) l.length c ∧ b < w.heap.size ∧ l.length ≤ c ∧ ∀ j, j < l.length → w.cell? ⟨b, off + j * 2, none⟩ = some (.int .i64 (l.getD j (0, 0)).1) ∧ w.cell? ⟨b, off + j * 2 + 1, none⟩ = some (.int .i64 (l.getD j (0, 0)).2)
theorem Items.below {w w' : World} {v : Value} {l : List (Int × Int)} (h : Items w v l) (hb : Below w.heap.size w w') : Items w' v l :=
  ⟨h.val, fun i hi => by
    obtain ⟨b, off, c, e, hlt, hc, hj⟩ := h.cell i hi
    exact ⟨b, off, c, e, Nat.lt_of_lt_of_le hlt hb.size, hc, fun j hj' => ⟨(hb.cell (p := ⟨b, _, none⟩) hlt).trans (hj j hj').1, (hb.cell (p := ⟨b, _, none⟩) hlt).trans (hj j hj').2⟩⟩⟩
theorem Items.kept {K : Nat → Prop} {w w' : World} {v : Value} {l : List (Int × Int)} (h : Items w v l) (hk : Kept K w w') (hK : ∀ b, v.ownBlock = some b → K b) : Items w' v l :=
  ⟨h.val, fun i hi => by
    obtain ⟨b, off, c, e, hlt, hc, hj⟩ := h.cell i hi
    have hKb := hK b (by rw [e]; rfl)
    exact ⟨b, off, c, e, Nat.lt_of_lt_of_le hlt hk.size, hc, fun j hj' => ⟨(hk.cell hlt hKb).trans (hj j hj').1, (hk.cell hlt hKb).trans (hj j hj').2⟩⟩⟩
theorem Items.own {w : World} {B : Nat} {v : Value} {l : List (Int × Int)} (h : w.ownsRow B 30 2 v l.length (itemCells l)) : Items w v l := by
  rcases h.2 with ⟨rfl, e⟩ | ⟨g, cap, cur, rfl, hg, hh, hl, hm, hs, ht⟩
  · have : l = [] := List.length_eq_zero_iff.1 e
    subst this
    exact ⟨⟨_, _, rfl⟩, fun i hi => absurd hi (Nat.not_lt_zero _)⟩
  · have hc : ∀ k, k < l.length * 2 → w.cell? ⟨g, k, none⟩ = (itemCells l)[k]? := fun k hk => by
      rw [cell_of_row _ _ _ _ _ _ hh, ← ht, List.getElem?_take, if_pos hk, Array.getElem?_toList]
    refine ⟨⟨_, _, rfl⟩, fun i hi => ⟨g, 0, cap, rfl, lt_heap hh, hl, fun j hj => ?_⟩⟩
    obtain ⟨e1, e2⟩ := itemCells_at l hj
    rw [Nat.zero_add]
    exact ⟨(hc _ (by omega)).trans e1, (hc _ (by omega)).trans e2⟩
theorem info_item : (Try.prog.info? 30).map (fun i => (i.zero, i.size, i.bytes)) = some (some (.agg #[.int .i64 0, .int .i64 0]), 2, 16) := by kernel_rfl
theorem owns_below {w w' : World} {B size n : Nat} {e : TypeId} {v : Value} {cs : List Value} (h : w.ownsRow B e size v n cs) (hb : Below w.heap.size w w') : w'.ownsRow B e size v n cs := by
  refine ⟨h.1, ?_⟩
  rcases h.2 with h2 | ⟨g, cap, cur, rfl, hg, hh, r⟩
  · exact .inl h2
  · exact .inr ⟨g, cap, cur, rfl, hg, (hb.block _ (lt_heap hh)).trans hh, r⟩
theorem owns_block {w : World} {B size n : Nat} {e : TypeId} {v : Value} {cs : List Value} (h : w.ownsRow B e size v n cs) : ∀ b, v.ownBlock = some b → B ≤ b := by
  intro b hb
  rcases h.2 with ⟨rfl, _⟩ | ⟨g, cap, cur, rfl, hg, _⟩
  · cases hb
  · cases hb; exact hg
theorem take_nextD {α : Type} {xs : List α} {t : Nat} {d : α} (ht : t < xs.length) : xs.take (t + 1) = xs.take t ++ [xs.getD t d] := by
  rw [List.take_add_one, List.getElem?_eq_getElem ht, List.getD_eq_getElem?_getD, List.getElem?_eq_getElem ht]
  rfl
/-- One more item is appended to a slice of our own. -/
theorem wpList_append_item {w : World} {B : Nat} {v : Value} {l : List (Int × Int)} (hO : w.ownsRow B 30 2 v l.length (itemCells l)) (hB : B ≤ w.heap.size) (hlen : l.length + 1 ≤ 1000000000)
    {ops : Array Oper} {rest : List Oper} {o : Oper} {a : Act} {Q : Exit → Act → World → Prop}
    (hg : o.guard = none) (s x : Operand) (hop : o.op = Op.call { callee := Callee.builtin Builtin.append, args := #[s, x], argTypes := #[42, 42] })
    (hs : a.eval s = v) (b : Nat) (y : Int × Int) (c : Nat) (hx : a.eval x = .slice (some ⟨b, 0, none⟩) 1 c) (hc0 : w.cell? ⟨b, 0, none⟩ = some (.int .i64 y.1)) (hc1 : w.cell? ⟨b, 1, none⟩ = some (.int .i64 y.2))
    (h : ∀ v' w', w'.ownsRow B 30 2 v' (l.length + 1) (itemCells (l ++ [y])) → w.grownBy w' v.ownBlock → wpList Try.prog ops Q rest (a.put o.dst v') w') : wpList Try.prog ops Q (o :: rest) a w := by
  obtain ⟨i0, hi, hz0, hz1, hz2⟩ := info_parts info_item
  obtain ⟨v', w', hrun, r1, r2, _⟩ := run_append_own (P := Try.prog) w B 42 o.type 30 i0 (.agg #[.int .i64 0, .int .i64 0]) 2 16 Try.underlying42 hi hz0 hz1 hz2 rfl (by decide) v l.length (itemCells l) hO ⟨b, 0, none⟩ 1 c [.int .i64 y.1, .int .i64 y.2] rfl
    (fun j u hj => by
      match j, hj with
      | 0, hj => simp at hj; subst hj; simpa [Addr.add] using hc0
      | 1, hj => simp at hj; subst hj; simpa [Addr.add] using hc1)
    (fun u hu => by simp at hu; rcases hu with rfl | rfl <;> rfl) (by unfold maxLen; omega) (by omega) hB
  refine wpList_plain hg fun K' hK' => ?_
  unfold Oper.wp
  simp [execOp, hop, resolve, invoke, builtin, hs, hx, hrun, Result.andThen]
  exact hK' _ _ (h v' w' (by rw [itemCells_snoc]; exact r1) r2)
section
variable {K : Nat → Prop} {p : Nat} {s : Ar} {B : Int} {L : List Int} {w : World}
set_option maxRecDepth 100000 in
set_option maxHeartbeats 4000000 in
theorem all_is {h : Int} {l : List (Int × Int)} (g : Good s B L) (hB : B ≤ 1000000000000) (hx : Lh s h l) (fm : h = 0 ∨ Firm s L h) (hl : l.length ≤ 1000) (hr : Rg l) (ha : Ars w K p s) :
    Calls Try.prog 22 #[.pointer (some ⟨p, 0, none⟩), .int .i64 h] w fun e w' => ∃ v, e = .returned v ∧ w'.ownsRow w.heap.size 30 2 v l.length (itemCells l) ∧ Below w.heap.size w w' := by
  have HL := Lib.hid (len_is (w := w) (K := K) (p := p) g hB hx fm hl ha)
  have HG := Lib.hid (fun (i : Nat) (hi : i < l.length) W (ha : Ars W K p s) => get_item (w := W) (i := i) g hB hx fm hl hr hi ha)
  have Ha := Lib.hid ha
  obtain ⟨n, hn⟩ : ∃ n, Hid (l.length = n) := ⟨_, rfl⟩
  rw [hn.out] at HL hl
  clear ha g hx fm hr
  go_enter Try.func22, Try.ntmps22
  go_wp2_with fail
  refine HL.out.mono ?_
  clear HL
  rintro e w1 ⟨rfl, ha1, hk1⟩
  have B1 := Lib.hid hk1
  clear ha1 hk1
  go_wp2_with fail
  go_loopw [5, 12] (fun v i W => ∃ j : Nat, i = .int .i64 j ∧ j ≤ n ∧ W.ownsRow w.heap.size 30 2 v j (itemCells (l.take j)) ∧ Below w.heap.size w W) (fun _ i _ => n - (intOf i).toNat)
  case atStart => exact ⟨0, rfl, by omega, World.ownsRow_nil _ _ _ _, B1.out⟩
  case round =>
    obtain ⟨j, rfl, j1, ho, hb⟩ := hrel
    have Ho := Lib.hid ho
    have Hb := Lib.hid hb
    obtain ⟨v, rfl⟩ : ∃ v : Value, v = u5 := ⟨_, rfl⟩
    clear ho hb
    by_cases hlt : j < n
    · have hlj : j < l.length := by rw [hn.out]; exact hlt
      have H := Lib.hid (HG.out j hlj wr (Ha.out.below Hb.out))
      have ht := Lib.hid (take_nextD (d := ((0 : Int), (0 : Int))) hlj)
      have htl := Lib.hid (show (l.take j).length = j by rw [List.length_take]; omega)
      clear hlj
      generalize l.getD j (0, 0) = y at *
      go_wp2_with fail
      refine H.out.mono ?_
      clear H
      rintro e w2 ⟨rfl, hk2⟩
      have B2 := Lib.hid (Hb.out.trans (hk2.mono Hb.out.size))
      have O2 := owns_below Ho.out hk2
      clear hk2
      have O3 := Lib.hid (owns_below O2 (((Below.refl w2.heap.size w2).alloc (Nat.le_refl _) (.cells #[.int .i64 y.1, .int .i64 y.2] 30)).alloc (by simp) (.cells #[.int .i64 y.1, .int .i64 y.2] 30)))
      have B3 := Lib.hid ((B2.out.alloc B2.out.size (.cells #[.int .i64 y.1, .int .i64 y.2] 30)).alloc (by have := B2.out.size; simp; omega) (.cells #[.int .i64 y.1, .int .i64 y.2] 30))
      have O4 : Hid (World.ownsRow (((w2.alloc (.cells #[.int .i64 y.1, .int .i64 y.2] 30)).alloc (.cells #[.int .i64 y.1, .int .i64 y.2] 30))) w.heap.size 30 2 v (l.take j).length (itemCells (l.take j))) := by show World.ownsRow _ _ _ _ _ _ _; rw [htl.out]; exact O3.out
      clear O2
      go_wp2_with (at_builtin; refine wpList_append_item O4.out B3.out.size (by rw [htl.out]; omega) rfl (.tmp 22) (.tmp 24) rfl rfl (w2.heap.size + 1) y 1 rfl (cell_new (by simp) rfl) (cell_new (by simp) rfl) ?_)
      intro v' w5 ho5 hg5
      have O5 := Lib.hid (show w5.ownsRow w.heap.size 30 2 v' (j + 1) (itemCells (l.take (j + 1))) by rw [ht.out]; have hmin : min j l.length = j := by { rw [hn.out]; omega }; rw [hmin] at ho5; exact ho5)
      have B5 := Lib.hid (B3.out.grown hg5 B3.out.size fun k hk => owns_block O3.out k hk)
      clear ho5 hg5
      go_wp2_with fail
      go_roundw
      case rel => exact ⟨j + 1, by go_num, by omega, O5.out, B5.out⟩
      case measure => simp [intOf]; omega
    · obtain rfl : n = j := by omega
      go_wp2_with fail
      go_ret
      exact ⟨v, rfl, by have := Ho.out; rwa [← hn.out, List.take_length] at this, Hb.out⟩
set_option maxRecDepth 100000 in
set_option maxHeartbeats 4000000 in
theorem same_true {va vb : Value} {l : List (Int × Int)} (h1 : Items w va l) (h2 : Items w vb l) (hl : l.length ≤ 1000) :
    Calls Try.prog 21 #[va, vb] w fun e w' => e = .returned (.bool true) ∧ Below w.heap.size w w' := by
  obtain ⟨a1, c1, rfl⟩ := h1.val
  obtain ⟨a2, c2, rfl⟩ := h2.val
  have H1 := Lib.hid h1
  have H2 := Lib.hid h2
  clear h1 h2
  obtain ⟨n, hn⟩ : ∃ n, l.length = n := ⟨_, rfl⟩
  have Hn := Lib.hid hn
  rw [hn] at hl ⊢
  clear hn
  go_enter Try.func21, Try.ntmps21
  go_wp2_with fail
  go_loopw [13] (fun i W => ∃ j : Nat, i = .int .i64 j ∧ j ≤ n ∧ Below w.heap.size w W) (fun i _ => n - (intOf i).toNat)
  case atStart => exact ⟨0, rfl, by omega, Below.refl _ _⟩
  case round =>
    obtain ⟨j, rfl, j1, hb⟩ := hrel
    have Hb := Lib.hid hb
    by_cases hlt : j < n
    · obtain ⟨b1, o1, d1, e1, q1, m1, x1⟩ := H1.out.cell j (by rw [Hn.out]; exact hlt)
      obtain ⟨b2, o2, d2, e2, q2, m2, x2⟩ := H2.out.cell j (by rw [Hn.out]; exact hlt)
      rw [Hn.out] at m1 m2
      obtain ⟨x10, x11⟩ := x1 j (by rw [Hn.out]; exact hlt)
      obtain ⟨x20, x21⟩ := x2 j (by rw [Hn.out]; exact hlt)
      cases e1
      cases e2
      generalize l.getD j (0, 0) = y at *
      have y10 : wr.cell? ⟨b1, o1 + j * 2, none⟩ = some (.int .i64 y.1) := (hb.cell (p := ⟨b1, _, none⟩) q1).trans x10
      have y11 : wr.cell? ⟨b1, o1 + j * 2 + 1, none⟩ = some (.int .i64 y.2) := (hb.cell (p := ⟨b1, _, none⟩) q1).trans x11
      have y20 : wr.cell? ⟨b2, o2 + j * 2, none⟩ = some (.int .i64 y.1) := (hb.cell (p := ⟨b2, _, none⟩) q2).trans x20
      have y21 : wr.cell? ⟨b2, o2 + j * 2 + 1, none⟩ = some (.int .i64 y.2) := (hb.cell (p := ⟨b2, _, none⟩) q2).trans x21
      have i1 : (j : Int) < (n : Int) := by omega
      clear x1 x2 x10 x11 x20 x21 hb
      go_wp2_with fail
      go_quiet (fail)
      go_wp2_with fail
      go_roundw
      case rel => exact ⟨j + 1, by go_num, by omega, ⟨Hb.out.os, Hb.out.tape, Hb.out.output, Hb.out.size, Hb.out.block⟩⟩
      case measure => simp [intOf]; omega
    · go_wp2_with fail
      go_ret
      exact ⟨rfl, Hb.out⟩
end
end Go.Proofs.Ytcdmebjggdhhdaa
namespace Go.Proofs.Ytcdmebjggdhhdaa
open Go.ChangeShapes Go.WideShapes Go.ChangeAt Go.RowKit

def itemKs : List Lk := [.int .i64, .int .i64]
/-- The value reads as the items. -/
structure ItemsArg (w : World) (v : Value) (l : List (Int × Int)) : Prop where
  items : Items w v l
  wf : ∀ p, p ∈ l → (Lit.int .i64 p.1).wf = true ∧ (Lit.int .i64 p.2).wf = true
  len : l.length ≤ maxLen
theorem items_arg {w : World} {v : Value} {m : Nat} {row : Nat → List Value} (h : FlatArg w v itemKs m row) : ∃ l, ItemsArg w v l := by
  have hr : ∀ i, ∃ x : Int × Int, i < m → (row i)[0]? = some (.int .i64 x.1) ∧ (row i)[1]? = some (.int .i64 x.2) ∧ (Lit.int .i64 x.1).wf = true ∧ (Lit.int .i64 x.2).wf = true := by
    intro i
    by_cases hi : i < m
    · obtain ⟨o0, e0, a, rfl, wa⟩ := (h.ok i hi).get (j := 0) rfl
      obtain ⟨o1, e1, b, rfl, wb⟩ := (h.ok i hi).get (j := 1) rfl
      exact ⟨(a, b), fun _ => ⟨e0, e1, wa, wb⟩⟩
    · exact ⟨(0, 0), fun e => absurd e hi⟩
  obtain ⟨f, hf⟩ := Classical.axiomOfChoice hr
  have hl : ((List.range m).map f).length = m := by simp
  have hg : ∀ j, j < m → ((List.range m).map f).getD j (0, 0) = f j := fun j hj => by
    rw [List.getD_eq_getElem?_getD, List.getElem?_map, List.getElem?_range hj]; rfl
  refine ⟨(List.range m).map f, ⟨?_, ?_⟩, ?_, by rw [hl]; exact h.len⟩
  · rw [hl]; exact h.val
  · intro i hi
    rw [hl] at hi ⊢
    obtain ⟨b, off, c, e, hlt, hc, hcell⟩ := h.cell i hi
    refine ⟨b, off, c, e, hlt, hc, fun j hj => ?_⟩
    obtain ⟨e0, e1, _⟩ := hf j hj
    rw [hg j hj]
    have h0 := hcell j hj 0 (by decide)
    have h1 := hcell j hj 1 (by decide)
    exact ⟨h0.trans e0, h1.trans e1⟩
  · intro x hx
    obtain ⟨j, hj, rfl⟩ := List.mem_map.1 hx
    exact (hf j (List.mem_range.1 hj)).2.2
set_option maxRecDepth 100000 in
theorem item_arg {H : Type} {enc : TypeId × Value → H} {W : World} {v : Value} {d : DataW H} {ps : List MemPlace} {r : Reach} {b0 : Nat} {fs : Array Field} (ht : Try.prog.underlying 30 = some (.struct fs)) (hk : flat Try.prog 3 30 = some itemKs) (hv : Value.okWide Try.prog W r b0 30 v)
    (h : DataW.Trod enc Try.prog W 0 (fun _ => true) true 30 v d ps) : ∃ a b, v = .agg #[.int .i64 a, .int .i64 b] ∧ (Lit.int .i64 a).wf = true ∧ (Lit.int .i64 b).wf = true := by
  obtain ⟨cs, rfl, hsz⟩ := okWide_struct ht hv
  obtain ⟨fuel, hf⟩ := h
  have := flat_oks _ _ _ _ _ _ hk hf
  obtain ⟨l⟩ := cs
  cases this with
  | cons h1 t1 =>
    cases t1 with
    | cons h2 t2 =>
      cases t2 with
      | nil =>
        obtain ⟨a, rfl, wa⟩ := h1
        obtain ⟨b, rfl, wb⟩ := h2
        exact ⟨a, b, rfl, wa, wb⟩

section
variable {K : Nat → Prop} {p : Nat} {s : Ar} {B : Int} {L : List Int} {w : World}
theorem get_at {h a b : Int} {l : List (Int × Int)} {i : Nat} (hy : l[i]? = some (a, b)) (g : Good s B L) (hB : B ≤ 1000000000000) (hx : Lh s h l) (fm : h = 0 ∨ Firm s L h) (hl : l.length ≤ 1000) (hr : Rg l) (ha : Ars w K p s) :
    Calls Try.prog 20 #[.pointer (some ⟨p, 0, none⟩), .int .i64 h, .int .i64 i] w fun e w' => e = .returned (.tuple #[.agg #[.int .i64 a, .int .i64 b], .bool true]) ∧ Below w.heap.size w w' := by
  have hi : i < l.length := (List.getElem?_eq_some_iff.1 hy).1
  have := get_item g hB hx fm hl hr hi ha
  rwa [List.getD_eq_getElem?_getD, hy] at this
theorem len_at {h : Int} {n : Nat} {l : List (Int × Int)} (hn : l.length = n) (g : Good s B L) (hB : B ≤ 1000000000000) (hx : Lh s h l) (fm : h = 0 ∨ Firm s L h) (hl : n ≤ 1000) (ha : Ars w K p s) :
    Calls Try.prog 8 #[.pointer (some ⟨p, 0, none⟩), .int .i64 h] w fun r w' => r = .returned (.int .i64 n) ∧ Ars w' K p s ∧ Below w.heap.size w w' := by
  subst hn
  exact len_is g hB hx fm hl ha
end

theorem LMade.mono {s s' : Ar} {e' g : Int} {m m' : Nat} {l : List (Int × Int)} {L : List Int} (R : LMade s s' e' g m l L) (h : m ≤ m') : LMade s s' e' g m' l L := ⟨R.went.mono h, R.eok, R.gd, R.zero, R.lh⟩
theorem MadeG.mono {K : Nat → Prop} {p : Nat} {s : Ar} {L : List Int} {w w' : World} {m m' : Nat} {l : List (Int × Int)} {o : Ending} (h : MadeG K p s L w m l o w') (hm : m ≤ m') : MadeG K p s L w m' l o w' := by
  obtain ⟨g, s', e', a, b, c, R⟩ := h
  exact ⟨g, s', e', a, b, c, R.mono hm⟩
/-- So many nodes a change of a list of n items makes at most. -/
def lc (n : Nat) : Nat := if n ≤ 100 then 4 + 4 * bl n else 130
theorem lc_pos (n : Nat) : 1 ≤ lc n := by
  unfold lc
  split <;> omega
theorem Tr.Bal.lc {t : Tr} (h : t.Bal) (hl : t.len ≤ 80000) (F : Tr → Tr) {m : Nat} (hm : m ≤ 2) (i : Nat) : ccost F m t i ≤ Proofs.Ytcdmebjggdhhdaa.lc t.len := by
  unfold Proofs.Ytcdmebjggdhhdaa.lc
  split
  · exact h.cost ‹_› F hm i
  · have := ccost_le F m t i h
    have := h.high40 hl
    omega
section
variable {K : Nat → Prop} {p : Nat} {s : Ar} {L : List Int} {w : World} {h x y : Int} {l : List (Int × Int)} {i : Nat}
theorem linsert (g : Gd s L) (hL : L.length ≤ 200000) (hmb : s.made - s.busy ≤ 1000000000) (hx : Lh s h l) (fm : h = 0 ∨ Firm s L h) (hl : l.length ≤ 70000) (hi : i ≤ l.length) (rx : 0 ≤ x ∧ x ≤ 9223372036854775807) (ry : 0 ≤ y ∧ y ≤ 9223372036854775807) (ha : Ars w K p s) :
    Calls Try.prog 9 #[.pointer (some ⟨p, 0, none⟩), .int .i64 h, .int .i64 i, .agg #[.int .i64 x, .int .i64 y]] w (MadeG K p s L w (lc l.length) (insL l i (x, y))) := by
  obtain ⟨t, r, f, rfl⟩ := hx
  rw [Tr.len_list] at hl hi ⊢
  rcases f with rfl | f
  · obtain rfl : h = 0 := r
    obtain rfl : i = 0 := by
      have : i ≤ 0 := hi
      omega
    exact (insert_none g hL hmb rx ry ha).mono fun _ _ h => h.mono (lc_pos _)
  · have h1 := r.pos f.some
    have fm' : Firm s L h := fm.resolve_left (by omega)
    exact (insert_some g hL hmb (fm'.has (g.goodb (by omega) hmb) r) fm' f (by omega) hi rx ry ha).mono fun _ _ h => h.mono (f.lc (by omega) _ (Nat.le_refl _) _)
theorem ldelete (g : Gd s L) (hL : L.length ≤ 200000) (hmb : s.made - s.busy ≤ 1000000000) (hx : Lh s h l) (fm : h = 0 ∨ Firm s L h) (hl : l.length ≤ 70000) (hi : i < l.length) (ha : Ars w K p s) :
    Calls Try.prog 10 #[.pointer (some ⟨p, 0, none⟩), .int .i64 h, .int .i64 i] w (MadeG K p s L w (lc l.length) (delL l i)) := by
  obtain ⟨t, r, f, rfl⟩ := hx
  rw [Tr.len_list] at hl hi ⊢
  rcases f with rfl | f
  · exact absurd hi (Nat.not_lt_zero _)
  · have h1 := r.pos f.some
    have fm' : Firm s L h := fm.resolve_left (by omega)
    exact (delete_some g hL hmb (fm'.has (g.goodb (by omega) hmb) r) fm' f (by omega) hi ha).mono fun _ _ h => h.mono (f.lc (by omega) _ (Nat.zero_le _) _)
theorem lset (g : Gd s L) (hL : L.length ≤ 200000) (hmb : s.made - s.busy ≤ 1000000000) (hx : Lh s h l) (fm : h = 0 ∨ Firm s L h) (hl : l.length ≤ 70000) (hi : i < l.length) (rx : 0 ≤ x ∧ x ≤ 9223372036854775807) (ry : 0 ≤ y ∧ y ≤ 9223372036854775807) (ha : Ars w K p s) :
    Calls Try.prog 19 #[.pointer (some ⟨p, 0, none⟩), .int .i64 h, .int .i64 i, .agg #[.int .i64 x, .int .i64 y]] w (MadeG K p s L w (lc l.length) (setL l i (x, y))) := by
  obtain ⟨t, r, f, rfl⟩ := hx
  rw [Tr.len_list] at hl hi ⊢
  rcases f with rfl | f
  · exact absurd hi (Nat.not_lt_zero _)
  · have h1 := r.pos f.some
    have fm' : Firm s L h := fm.resolve_left (by omega)
    exact (set_some g hL hmb (fm'.has (g.goodb (by omega) hmb) r) fm' f (by omega) hi rx ry ha).mono fun _ _ h => h.mono (f.lc (by omega) _ (by omega) _)
/-- Where there is room nothing goes wrong. -/
theorem LMade.sure {s s' : Ar} {e' g : Int} {m : Nat} {l : List (Int × Int)} {L : List Int} (R : LMade s s' e' g m l L) (room : s.busy + (m : Nat) < s.n) : e' = 0 := by
  rcases R.eok with h | ⟨_, h⟩
  · exact h
  · obtain ⟨j, hj, _, hb⟩ := R.went.made
    have := R.went.ext.n
    omega
end
set_option maxRecDepth 100000 in
set_option maxHeartbeats 4000000 in
theorem alive10 (w : World) : Calls Try.prog 6 #[] w fun e w' => e = .returned (.bool true) ∧ Below w.heap.size w w' := by
  obtain ⟨K, hK⟩ : ∃ K : Nat → Prop, K = fun b => b < w.heap.size := ⟨_, rfl⟩
  have HK := Lib.hid hK
  clear hK
  go_enter Try.func6, Try.ntmps6
  go_wp2_with fail
  refine (new_yes 20 w (by decide) (by decide)).mono ?_
  rintro e w1 ⟨p, rfl, hb, ha⟩
  replace ha := ha K (fun _ h => by rw [HK.out] at h; exact h)
  have Hk := Lib.hid (Kept.of_below hb K)
  clear hb
  have H := Lib.hid (linsert (x := 3) (y := 4) (gd_new (n := 20) (by decide) (by decide)) (by decide) (by decide) (Lh.nil _) (.inl rfl) (by decide) (i := 0) (Nat.le_refl _) (by decide) (by decide) ha)
  clear ha
  go_wp2_with fail
  refine H.out.mono ?_
  clear H
  rintro e w2 ⟨h, s1, e1, rfl, ha, hk, R⟩
  replace Hk := Lib.hid (Hk.out.trans hk)
  obtain ⟨k1, a1, a2, a3⟩ := R.went.made
  have lc0 : lc 0 = 4 := by
    have e0 : bl 0 = 0 := by
      have := (bl_is 0).2 0
      refine Classical.byContradiction fun c => ?_
      have := this (by omega)
      omega
    show (if 0 ≤ 100 then 4 + 4 * bl 0 else 130) = 4
    rw [if_pos (by omega), e0]
  have a1' : k1 ≤ 4 := by rw [← lc0]; exact a1
  have b0 : (Ar.new 20).busy = 0 := rfl
  have m0 : (Ar.new 20).made = 0 := rfl
  have n0 : (Ar.new 20).n = 20 := rfl
  have n1 := R.went.ext.n
  obtain rfl := R.sure (by show (0 : Int) + (lc 0 : Nat) < 20; rw [lc0]; decide)
  have l1 := R.lh rfl
  have lc1 : lc 1 = 8 := by
    show (if 1 ≤ 100 then 4 + 4 * bl 1 else 130) = 8
    rw [if_pos (by omega), bl_val.1]
  have H := Lib.hid (lset (x := 5) (y := 0) (i := 0) R.gd (by simp) (by omega) l1 (.inr (.inl (by simp))) (by decide) (by decide) (by decide) (by decide) ha)
  have Hl1 := Lib.hid l1
  have N1 := Lib.hid (show s1.busy + ((lc 1 : Nat) : Int) < s1.n by rw [lc1]; omega)
  have MB1 := Lib.hid (show s1.made - s1.busy ≤ 1000000 by omega)
  clear ha hk R l1 a1 a2 a3 n1 b0 m0 n0 a1' lc0 lc1
  go_wp2_with fail
  refine H.out.mono ?_
  clear H
  rintro e w3 ⟨h2, s2, e2, rfl, ha, hk, R⟩
  replace Hk := Lib.hid (Hk.out.trans hk)
  obtain rfl := R.sure N1.out
  have Hl2 := Lib.hid (R.lh rfl)
  have x := R.went.ext
  have G := Lib.hid (R.gd.goodb (by simp) (by rw [R.went.md]; have := MB1.out; omega))
  have HG1 := fun w ha => Lib.hid (get_at (w := w) (K := K) (p := p) (i := 0) (a := 3) (b := 4) rfl G.out (by decide) (Hl1.out.ext x) (.inr (.inl (by simp))) (by decide) (fun q hq => by simp [insL] at hq; subst hq; decide) ha)
  have HG2 := fun w ha => Lib.hid (get_at (w := w) (K := K) (p := p) (i := 0) (a := 5) (b := 0) rfl G.out (by decide) Hl2.out (.inr (.inl (by simp))) (by decide) (fun q hq => by simp [setL, insL] at hq; subst hq; decide) ha)
  have HL := fun w ha => Lib.hid (len_at (w := w) (K := K) (p := p) (n := 1) rfl G.out (by decide) Hl2.out (.inr (.inl (by simp))) (by decide) ha)
  have Ha := Lib.hid ha
  clear ha hk R x
  go_wp2_with fail
  refine (HG1 _ Ha.out).out.mono ?_
  rintro e w4 ⟨rfl, hk4⟩
  have A4 := Lib.hid ((Ha.out.below hk4).alloc (.cells #[.int .i64 3, .int .i64 4] 30))
  have B4 := Lib.hid (hk4.alloc hk4.size (.cells #[.int .i64 3, .int .i64 4] 30))
  have c6 := heap_alloc_new w4 (.cells #[.int .i64 3, .int .i64 4] 30)
  clear hk4 HG1
  go_wp2_with fail
  refine (HG2 _ A4.out).out.mono ?_
  clear HG2
  rintro e w5 ⟨rfl, hk5⟩
  have C6 := Lib.hid ((hk5.block _ (lt_heap c6)).trans c6)
  have c8 := heap_alloc_new w5 (.cells #[.int .i64 5, .int .i64 0] 30)
  have A5 := Lib.hid ((A4.out.below hk5).alloc (.cells #[.int .i64 5, .int .i64 0] 30))
  have B5 := Lib.hid ((B4.out.trans (hk5.mono (by have := B4.out.size; simp at this ⊢; omega))).alloc (by have := B4.out.size; have := hk5.size; simp at *; omega) (.cells #[.int .i64 5, .int .i64 0] 30))
  have C62 := Lib.hid ((Below.heap_alloc w5 (.cells #[.int .i64 5, .int .i64 0] 30) _ (lt_heap C6.out)).trans C6.out)
  have lz := lt_heap C6.out
  have d0 : w5.cell? ⟨w4.heap.size, 0, none⟩ = some (.int .i64 3) := cell_of_row _ _ _ _ _ _ C6.out
  have d1 : w5.cell? ⟨w4.heap.size, 1, none⟩ = some (.int .i64 4) := cell_of_row _ _ _ _ _ _ C6.out
  clear hk5 c6 c8
  go_wp2_with fail
  refine (HL _ A5.out).out.mono ?_
  rintro e w7 ⟨rfl, _, hk7⟩
  go_wp2_with fail
  go_ret
  exact ⟨rfl, (Hk.out.below fun b hb => by rw [HK.out]; exact hb).trans ((B5.out.trans (hk7.mono B5.out.size)).mono Hk.out.size)⟩
end Go.Proofs.Ytcdmebjggdhhdaa
