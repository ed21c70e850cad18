/- Lists in an arena whose counts are told: they stay while they are had; their nodes; what a change makes at most. Plain. -/
import Derived.Test.YtcdmebjggdhhdaaM8
import Derived.Test.YtcdmebjggdhhdaaWk
import Derived.Test.YtcdmebjggdhhdaaWb
namespace Go.Proofs.Ytcdmebjggdhhdaa
open Go.RowKit

theorem rep_congr {s s' : Ar} (hn : s'.n = s.n) (hu : s'.u = s.u) (hd : s'.nd = s.nd) : ∀ {t : Tr} {h : Int}, Rep s h t → Rep s' h t
  | .nil, _, r => r
  | .item a b, h, ⟨r1, r2, r3, r4⟩ => ⟨r1, by rw [hn]; exact r2, by rw [hu]; exact r3, by rw [hd]; exact r4⟩
  | .join l r, h, ⟨r1, r2, r3, k0, k1, r4, r5, r6⟩ => ⟨r1, by rw [hn]; exact r2, by rw [hu]; exact r3, k0, k1, by rw [hd]; exact r4, rep_congr hn hu hd r5, rep_congr hn hu hd r6⟩
theorem rep_pop {s : Ar} {B : Int} {L : List Int} (g : Good s B L) {i : Int} {r : List Int} (hw : s.wt = i :: r) : ∀ {t : Tr} {h : Int}, Has s h t → Rep (s.pop i r) h t
  | .nil, _, x => x.rep
  | .item a b, h, x => by
    obtain ⟨r1, r2, r3, r4⟩ := x.rep
    have hp := x.pos g r1
    obtain ⟨i1, i2, _, i4⟩ := g.ok.wt i (by rw [hw]; simp)
    have ne : h.toNat ≠ i.toNat := fun e => by
      have : s.count h = s.c h.toNat := if_neg (by omega)
      rw [this, e, i4] at hp
      omega
    exact ⟨r1, r2, (upd_ne _ _ ne).trans r3, (upd_ne _ _ ne).trans r4⟩
  | .join l t, h, x => by
    obtain ⟨h1, k0', k1', e, x0, x1⟩ := x.join g
    obtain ⟨r1, r2, r3, k0, k1, r4, r5, r6⟩ := x.rep
    have hk : (s.get h).1 = s.nd h.toNat := by unfold Ar.get; rw [if_neg (by rw [r3]; simp; omega)]
    rw [e, r4] at hk
    injection hk with _ ea eb
    subst ea eb
    have hp := x.pos g r1
    obtain ⟨i1, i2, _, i4⟩ := g.ok.wt i (by rw [hw]; simp)
    have ne : h.toNat ≠ i.toNat := fun e => by
      have : s.count h = s.c h.toNat := if_neg (by omega)
      rw [this, e, i4] at hp
      omega
    exact ⟨r1, r2, (upd_ne _ _ ne).trans r3, k0', k1', (upd_ne _ _ ne).trans r4, rep_pop g hw x0, rep_pop g hw x1⟩
theorem rep_workg {L : List Int} {t : Tr} {h : Int} (hm : h = 0 ∨ h ∈ L) : ∀ (m : Nat) {s : Ar}, Gd s L → Rep s h t → Rep (s.work m).1 h t
  | 0, _, _, r => r
  | m + 1, s, g, r => by
    unfold Ar.work
    split
    · exact r
    · rename_i i rr hw
      obtain ⟨B, G⟩ := g.good
      have hx : Has s h t := by
        rcases hm with rfl | hm
        · exact ⟨r, .inl rfl⟩
        · exact G.has r hm
      refine rep_workg hm m (gd_free1 g hw) ?_
      rw [free1_eq]
      exact rep_congr (drops_n _ _) (drops_u _ _) (drops_nd _ _) (rep_pop G hw hx)
theorem Lh.workg {s : Ar} {L : List Int} {h : Int} {l : List (Int × Int)} (x : Lh s h l) (g : Gd s L) (hm : h = 0 ∨ h ∈ L) (m : Nat) : Lh (s.work m).1 h l := by
  obtain ⟨t, a, b, c⟩ := x
  exact ⟨t, rep_workg hm m g a, b, c⟩
theorem Lh.dropg {s : Ar} {h : Int} {l : List (Int × Int)} (x : Lh s h l) (i : Int) : Lh (s.drop i).1 h l := x.ext (ext_drop s i)
theorem Lh.nil_iff {s : Ar} {h : Int} {l : List (Int × Int)} (x : Lh s h l) : h = 0 ↔ l = [] := by
  constructor
  · rintro rfl
    refine Classical.byContradiction fun hl => ?_
    have := (x.pos hl).1
    omega
  · rintro rfl
    exact x.zero
theorem Lh.range {s : Ar} {h : Int} {l : List (Int × Int)} (x : Lh s h l) : 0 ≤ h ∧ h ≤ s.n := by
  obtain ⟨t, a, _, _⟩ := x
  exact a.range
/-- The nodes of a list: no more than twice its length. -/
theorem rep_cover {s : Ar} : ∀ {t : Tr} {h : Int}, Rep s h t → t.Bal → ∃ l : List Int, l.length + 1 ≤ 2 * t.len ∧ (s.count h ≠ 0 → h ∈ l) ∧ ∀ x k, x ∈ l → k ∈ (s.nd x.toNat).kids → s.count k ≠ 0 → k ∈ l
  | .nil, _, _, b => b.elim
  | .item a b, h, r, _ => by
    obtain ⟨_, _, _, e⟩ := r
    refine ⟨[h], by show 1 + 1 ≤ 2 * 1; omega, fun _ => List.mem_singleton.2 rfl, fun x k hx hk hc => ?_⟩
    obtain rfl := List.mem_singleton.1 hx
    rw [e] at hk
    have : k = 0 := by simpa [Nd.kids] using hk
    subst this
    exact absurd (count_zero' s) hc
  | .join l r, h, x, b => by
    obtain ⟨_, _, _, k0, k1, e, x0, x1⟩ := x
    obtain ⟨l0, p1, p2, p3⟩ := rep_cover x0 b.1
    obtain ⟨l1, q1, q2, q3⟩ := rep_cover x1 b.2.1
    refine ⟨h :: (l0 ++ l1), ?_, fun _ => List.mem_cons_self, fun y k hy hk hc => ?_⟩
    · simp only [List.length_cons, List.length_append]
      show _ ≤ 2 * (l.len + r.len)
      omega
    · rcases List.mem_cons.1 hy with rfl | hy
      · rw [e] at hk
        have : k = k0 ∨ k = k1 ∨ k = 0 := by simpa [Nd.kids] using hk
        rcases this with rfl | rfl | rfl
        · exact List.mem_cons_of_mem _ (List.mem_append_left _ (p2 hc))
        · exact List.mem_cons_of_mem _ (List.mem_append_right _ (q2 hc))
        · exact absurd (count_zero' s) hc
      · rcases List.mem_append.1 hy with hy | hy
        · exact List.mem_cons_of_mem _ (List.mem_append_left _ (p3 _ _ hy hk hc))
        · exact List.mem_cons_of_mem _ (List.mem_append_right _ (q3 _ _ hy hk hc))
theorem Lh.cover {s : Ar} {h : Int} {xs : List (Int × Int)} (x : Lh s h xs) : ∃ l : List Int, l.length ≤ 2 * xs.length ∧ (s.count h ≠ 0 → h ∈ l) ∧ ∀ x k, x ∈ l → k ∈ (s.nd x.toNat).kids → s.count k ≠ 0 → k ∈ l := by
  obtain ⟨t, a, b, rfl⟩ := x
  rcases b with rfl | b
  · obtain rfl : h = 0 := a
    exact ⟨[], Nat.zero_le _, fun c => absurd (count_zero' s) c, fun _ _ hx => by cases hx⟩
  · obtain ⟨l, h1, h2, h3⟩ := rep_cover a b
    exact ⟨l, by rw [Tr.len_list]; omega, h2, h3⟩
theorem Lh.reach {s : Ar} {h : Int} {xs : List (Int × Int)} (x : Lh s h xs) {ys : List Int} (ha : Asc ys) (hy : ∀ x, x ∈ ys ↔ Rch s [h] x) : ys.length ≤ 2 * xs.length := by
  obtain ⟨l, h1, h2, h3⟩ := x.cover
  refine Nat.le_trans (nodup_sub ha.nodup fun x hx => ?_) h1
  have hr := (hy x).1 hx
  clear hx
  induction hr with
  | root a b =>
    obtain rfl := List.mem_singleton.1 a
    exact h2 b
  | kid _ a b ih => exact h3 _ _ ih a b
/-- Where none waits, no more are used than a closed list that holds the roots has. -/
theorem busy_cover {s : Ar} {L : List Int} (g : Gd s L) (hw : s.wt = []) {l : List Int} (h1 : ∀ h, h ∈ L → s.count h ≠ 0 → h ∈ l) (h2 : ∀ x k, x ∈ l → k ∈ (s.nd x.toNat).kids → s.count k ≠ 0 → k ∈ l) : s.busy ≤ l.length := by
  rw [g.busy_is]
  have : (usedL s).length ≤ l.length := nodup_sub (usedL_nodup s) fun x hx => by
    have hr := used_reached g hw hx
    clear hx
    induction hr with
    | root a b => exact h1 _ a b
    | kid _ a b ih => exact h2 _ _ ih a b
  omega
theorem jcost_le (x y : Tr) : jcost x y ≤ 3 := by
  unfold jcost
  split
  · omega
  · split <;> omega
theorem ccost_le (F : Tr → Tr) (m : Nat) : ∀ (t : Tr) (i : Nat), t.Bal → ccost F m t i ≤ 3 * (t.high - 1) + m
  | .nil, _, b => b.elim
  | .item _ _, _, _ => by show m ≤ _; omega
  | .join l r, i, b => by
    have hl := b.1.high
    have hr := b.2.1.high
    have il := ccost_le F m l i b.1
    have ir := ccost_le F m r (i - l.len) b.2.1
    have j1 := jcost_le l (tchange F r (i - l.len))
    have j2 := jcost_le (tchange F l i) r
    have ej : (Tr.join l r).high = 1 + max l.high r.high := rfl
    rw [ej]
    unfold ccost
    split <;> omega
/-- Two to the k is no more than so many. -/
theorem pow_fib : ∀ k, 1 ≤ k → 2 ^ k ≤ fibL (2 * k)
  | 0, h => by omega
  | 1, _ => by decide
  | k + 2, _ => by
    have h := pow_fib (k + 1) (by omega)
    have h1 : fibL (2 * (k + 2)) = fibL (2 * k + 3) + fibL (2 * k + 2) := fibL_step (2 * k + 1)
    have h2 : fibL (2 * k + 2) ≤ fibL (2 * k + 3) := fibL_mono (2 * k + 2)
    have e : 2 * (k + 1) = 2 * k + 2 := by omega
    rw [e] at h
    rw [h1, Nat.pow_succ]
    omega
theorem Tr.Bal.deep {t : Tr} (h : t.Bal) : t.high ≤ 2 * bl t.len := by
  have h1 := h.fib
  have h2 := (bl_is t.len).1
  have h3 := h.len
  have h4 : 1 ≤ bl t.len := bl_ge (k := 0) (by simpa using h3)
  have h5 := pow_fib (bl t.len) h4
  refine Classical.byContradiction fun c => ?_
  have := fibL_le (show 2 * bl t.len ≤ t.high by omega)
  omega
theorem bl_val : bl 1 = 1 ∧ bl 2 = 2 ∧ bl 3 = 2 ∧ bl 5 = 3 ∧ bl 8 = 4 ∧ bl 13 = 4 ∧ bl 21 = 5 ∧ bl 34 = 6 ∧ bl 55 = 6 ∧ bl 89 = 7 := by
  have h : ∀ n b, 2 ^ b ≤ n → n < 2 ^ (b + 1) → bl n = b + 1 := fun n b h1 h2 => by
    have a := bl_ge h1
    refine Classical.byContradiction fun c => ?_
    have := (bl_is n).2 (b + 1) (by omega)
    omega
  exact ⟨h 1 0 (by decide) (by decide), h 2 1 (by decide) (by decide), h 3 1 (by decide) (by decide), h 5 2 (by decide) (by decide), h 8 3 (by decide) (by decide), h 13 3 (by decide) (by decide), h 21 4 (by decide) (by decide), h 34 5 (by decide) (by decide), h 55 5 (by decide) (by decide), h 89 6 (by decide) (by decide)⟩
/-- What a change of a list of so many items makes at most, in the statement's own numbers. -/
theorem Tr.Bal.cost {t : Tr} (h : t.Bal) (hl : t.len ≤ 100) (F : Tr → Tr) {m : Nat} (hm : m ≤ 2) (i : Nat) : ccost F m t i ≤ 4 + 4 * bl t.len := by
  have hc := ccost_le F m t i h
  have hf := h.fib
  have h1 := h.high
  obtain ⟨b1, b2, b3, b5, b8, b13, b21, b34, b55, b89⟩ := bl_val
  have h10 : t.high ≤ 10 := by
    refine Classical.byContradiction fun c => ?_
    have := fibL_le (show 11 ≤ t.high by omega)
    have e : fibL 11 = 144 := by decide
    omega
  have m1 := fun n (hn : n ≤ t.len) => bl_mono hn
  have cases : t.high = 1 ∨ t.high = 2 ∨ t.high = 3 ∨ t.high = 4 ∨ t.high = 5 ∨ t.high = 6 ∨ t.high = 7 ∨ t.high = 8 ∨ t.high = 9 ∨ t.high = 10 := by omega
  rcases cases with e | e | e | e | e | e | e | e | e | e <;> rw [e] at hf hc
  · omega
  · have := m1 2 hf; omega
  · have := m1 3 hf; omega
  · have := m1 5 hf; omega
  · have := m1 8 hf; omega
  · have := m1 13 hf; omega
  · have := m1 21 hf; omega
  · have := m1 34 hf; omega
  · have := m1 55 hf; omega
  · have := m1 89 hf; omega
end Go.Proofs.Ytcdmebjggdhhdaa
