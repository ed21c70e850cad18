/- A row that is built, with none waiting behind it; what rows share. -/
import Derived.Test.YtjfeocoengheaaaBwt
import Derived.Test.YtjfeocoengheaaaGpF
import Derived.Test.YtjfeocoengheaaaGpG
import Derived.Test.YtjfeocoengheaaaGpR
namespace Go.Proofs.Ytjfeocoengheaaa
set_option maxRecDepth 100000
open Go.RowKit
section
variable {w w' : World} {K : Nat → Prop} {p : Nat} {s s' : Ar} {L L' : List Int} {h : Int} {xs : List Bool}
theorem build_argw {v : Value} (hA : BoolsArg w v xs) (hx : xs.length ≤ 5000) (g : Gd s L) (hL : L.length ≤ 400000) (hm : s.made - s.busy ≤ 1000000000) (room : s.busy + (2 * ((xs.length + 63) / 64) : Nat) < s.n) :
    ∃ s' q, Went s s' (2 * ((xs.length + 63) / 64) - 1) ∧ Gd s' (q :: L) ∧ Row s' (q :: L) q xs ∧ s'.wt = s.wt ∧ ∀ (p : Nat) (W : World), Ars W (fun b => b < w.heap.size) p s → Below w.heap.size w W →
      Calls Try.prog 12 #[.pointer (some ⟨p, 0, none⟩), v] W fun o W' => o = .returned (.tuple #[.int .i64 q, .int .i64 0]) ∧ Ars W' (fun b => b < w.heap.size) p s' ∧ Below w.heap.size w W' := by
  rcases Nat.eq_zero_or_pos xs.length with h0 | h0
  · obtain ⟨a, c, rfl⟩ := hA.val
    have e : xs = [] := List.length_eq_zero_iff.1 h0
    subst e
    refine ⟨s, 0, Went.refl s, g.zero, Row.zero _ _, rfl, fun p W ha hb => bBuild_none.mono ?_⟩
    rintro o W' ⟨rfl, rfl⟩
    exact ⟨rfl, ha, hb⟩
  · obtain ⟨b, off, c, rfl, hb, hc, hcm, hcell⟩ := hA.cell 0 h0
    obtain ⟨k, hk⟩ : ∃ k, (xs.length + 63) / 64 = k := ⟨_, rfl⟩
    have k1 : 1 ≤ k := by omega
    obtain ⟨t, s', e', q, a1, a2, a3, a4, a5, a6, R⟩ := build_ex k k xs s 0 L (Nat.le_refl _) k1 (by omega) (by omega) (by omega) g (.inl rfl) hm (by omega)
    have nr := build_res a6 g (.inl rfl)
    rw [hk] at room ⊢
    have e0 : e' = 0 := by
      rcases R.eok with a2 | ⟨_, a2⟩
      · exact a2
      · obtain ⟨j, hj, _, hb⟩ := R.went.made
        have := R.went.ext.n
        omega
    subst e0
    refine ⟨s', q, R.went, R.gd, ⟨t, R.hd.1 rfl, .inr List.mem_cons_self, a2, a1, by rw [← t.len_list, a1]; omega⟩, nr.wt rfl, fun p W ha hB => ?_⟩
    refine (bBuild_walk (K := fun b => b < w.heap.size) (p := p) (g := b) (off := off) (cap := c) (w := W) (by rw [hk]; exact a6) R.zero h0 (by omega) hc hcm hb (fun i hi => (hB.cell (p := ⟨b, off + i, none⟩) hb).trans (hcell i hi)) ha).mono ?_
    rintro o W' ⟨rfl, h1, h2⟩
    exact ⟨rfl, h1, hB.trans (h2.below_of hB.size)⟩
end
/-- What is told of a row, and of one that was made of it with a bit more. -/
theorem share_facts {s1 s2 : Ar} {q g : Int} {xs ys : List Bool} {c : Nat} (g1 : Gd s1 [q]) (r1 : Row s1 [q] q xs) (hw : s1.wt = []) (m1 : s1.made - s1.busy ≤ 1000000000) (W : Went s1 s2 c) (g2 : Gd s2 [g, q]) (r2 : Row s2 [g, q] g ys) (hys : ys.length = xs.length + 1) :
    ∃ (s3 s4 : Ar) (m W0 : Nat), s2.drop g = (s3, 0) ∧ s3.work 1073741824 = (s4, m) ∧ 1 ≤ m ∧ s4.busy = W0 ∧ W0 ≤ 6000 ∧ Snd s1 ∧ Snd s2 ∧ Snd s3 ∧
      (∀ zs, Asc zs → (∀ x, x ∈ zs ↔ Rch s1 [q] x) → zs.length = W0) ∧ (∀ zs, Asc zs → (∀ x, x ∈ zs ↔ Rch s2 [q] x) → zs.length = W0) ∧ (∀ zs, Asc zs → (∀ x, x ∈ zs ↔ Rch s2 [g, q] x) → zs.length ≤ W0 + c) := by
  obtain ⟨t, a, hq, _, rfl, _⟩ := r1
  obtain ⟨t2, b, _, _, rfl, _⟩ := r2
  have E := W.ext
  obtain ⟨k, k1, k2, k3⟩ := W.made
  have hg1 : 1 ≤ g := b.pos (by
    cases t2 with
    | nil => simp [BT.list] at hys
    | leaf _ => rfl
    | fork _ _ => rfl)
  have hgc : s2.count g ≠ 0 := g2.live hg1 b.range.2 List.mem_cons_self
  have hb1 := g1.busy_is
  have A : ∀ zs, Asc zs → (∀ x, x ∈ zs ↔ Rch s1 [q] x) → zs.length = (usedL s1).length := fun zs ha hz => by
    have := busy_reach g1 hw (R := [q]) (fun _ h => h) ha hz
    omega
  have a2 := a.ext E
  have row2 := fun x => (row_rch g2 a2 (hq.imp id fun h => List.mem_cons_of_mem _ h) x)
  have row1 := fun x => (row_rch g1 a hq x)
  have n12 := nods_ext E a
  have kpos : 1 ≤ k := by
    refine Classical.byContradiction fun hk => ?_
    have h1 := used_same g1 g2 E (by omega) (g2.used hgc)
    obtain ⟨u1, u2, u3⟩ := usedL_mem.1 h1
    have h2 := nods_nlen a ((row1 g).1 (used_reached g1 hw h1))
    have h3 := rep_nlen b hg1
    rw [E.nd _ u3] at h3
    have e1 := t.len_list
    have e2 := t2.len_list
    omega
  have hd : s2.drop g = ((s2.drop g).1, 0) := by
    unfold Ar.drop
    rw [if_neg hgc]
  have g3 : Gd (s2.drop g).1 [q] := gd_drop g2 (by omega) b.range.2
  have a3 := a2.ext (ext_drop s2 g)
  have n23 := nods_ext (ext_drop s2 g) a2
  have hb3 : (s2.drop g).1.busy = s2.busy := drop_busy s2 g
  have hm3 : (s2.drop g).1.made = s2.made := drop_made s2 g
  have bl3 := g3.busy_le
  have nn3 := g3.n2
  have wt4 := work_none 1073741824 (s2.drop g).1 g3 (by omega)
  have g4 := gd_work g3 1073741824
  have a4 := brep_work hq 1073741824 g3 a3
  have n34 := nods_work hq 1073741824 g3 a3
  have row4 := fun x => (row_rch g4 a4 hq x)
  have hasc := asc_sort (usedL_nodup s1)
  have mem1 : ∀ x, x ∈ ((usedL s1).mergeSort fun x y => decide (x ≤ y)) ↔ Rch s1 [q] x := fun x => (hasc.2 x).trans ⟨fun hx => used_reached g1 hw hx, fun hx => g1.used hx.live⟩
  have mem4 : ∀ x, x ∈ ((usedL s1).mergeSort fun x y => decide (x ≤ y)) ↔ Rch ((s2.drop g).1.work 1073741824).1 [q] x := fun x => by
    rw [mem1 x, row1 x, row4 x, n34, n23, n12]
  have hb4 := busy_reach g4 wt4 (R := [q]) (fun _ h => h) hasc.1 mem4
  have hl := A _ hasc.1 mem1
  have hwb := work_busy 1073741824 (s2.drop g).1
  refine ⟨(s2.drop g).1, ((s2.drop g).1.work 1073741824).1, ((s2.drop g).1.work 1073741824).2, (usedL s1).length, hd, rfl, by omega, by omega, ?_, g1.snd (by simp) (by omega), g2.snd (by simp) (by omega), g3.snd (by simp) (by omega), A, fun zs ha hz => ?_, fun zs ha hz => ?_⟩
  · have := g1.busy_le
    have := g1.n2
    omega
  · exact A zs ha fun x => by rw [hz x, row2 x, row1 x, n12]
  · have := reach_busy g2 ha hz
    omega
theorem ints_one (W : World) (h : Int) : Ints (W.alloc (.cells #[.int .i64 h] 3)) (.slice (some ⟨W.heap.size, 0, none⟩) 1 1) [h] :=
  .inr ⟨_, 0, _, rfl, by simp, Nat.le_refl _, fun j hj => by
    have hj : j < 1 := hj
    obtain rfl : j = 0 := by omega
    exact cell_new rfl rfl⟩
theorem ints_two (W : World) (g h : Int) : Ints (W.alloc (.cells #[.int .i64 g, .int .i64 h] 3)) (.slice (some ⟨W.heap.size, 0, none⟩) 2 2) [g, h] :=
  .inr ⟨_, 0, _, rfl, by simp, Nat.le_refl _, fun j hj => by
    have hj : j < 2 := hj
    have : j = 0 ∨ j = 1 := by omega
    rcases this with rfl | rfl <;> exact cell_new rfl rfl⟩
section
variable {w : World} {K : Nat → Prop} {p : Nat} {s : Ar} {R : List Int} {v : Value}
theorem reach_len {n : Nat} (ha : Ars w K p s) (hf : s.Fit) (hv : Ints w v R) (hl : R.length ≤ 100) (h : ∀ zs, Asc zs → (∀ x, x ∈ zs ↔ Rch s R x) → zs.length = n) :
    Calls Try.prog 22 #[.pointer (some ⟨p, 0, none⟩), v] w fun e w' => (∃ a c, e = .returned (.slice a n c)) ∧ Below w.heap.size w w' := by
  refine (reach_is ha hf hv (by omega)).mono ?_
  rintro e w' ⟨v', ys, Ko, rfl, hL, _, hasc, hm, hb⟩
  obtain ⟨a, c, rfl⟩ := hL.slice
  exact ⟨⟨a, c, by rw [h ys hasc hm]⟩, hb⟩
theorem reach_most {n : Nat} (ha : Ars w K p s) (hf : s.Fit) (hv : Ints w v R) (hl : R.length ≤ 100) (h : ∀ zs, Asc zs → (∀ x, x ∈ zs ↔ Rch s R x) → zs.length ≤ n) :
    Calls Try.prog 22 #[.pointer (some ⟨p, 0, none⟩), v] w fun e w' => (∃ a c m, m ≤ n ∧ e = .returned (.slice a m c)) ∧ Below w.heap.size w w' := by
  refine (reach_is ha hf hv (by omega)).mono ?_
  rintro e w' ⟨v', ys, Ko, rfl, hL, _, hasc, hm, hb⟩
  obtain ⟨a, c, rfl⟩ := hL.slice
  exact ⟨⟨a, c, _, h ys hasc hm, rfl⟩, hb⟩
end
end Go.Proofs.Ytjfeocoengheaaa
