/- The plain arena: who has no count waits; kids are elder; when nobody has anything, and nobody waits, nothing is used. -/
import Derived.Test.YtcdmebjggdhhdaaAcc
namespace Go.Proofs.Ytcdmebjggdhhdaa

/-- Who is used and has no count waits; each kid was there ahead of its parent. -/
structure Led (s : Ar) : Prop where
  wts : ∀ h, s.u h = true → s.c h = 0 → (h : Int) ∈ s.wt
  rank : ∃ ρ : Nat → Nat, ∀ h, s.u h = true → ∀ y, y ∈ (s.nd h).kids → y ≠ 0 → ρ y.toNat < ρ h

theorem led_new (n : Nat) : Led (Ar.new n) := ⟨fun h hu => absurd (show false = true from hu) (by decide), fun _ => 0, fun h hu => absurd (show false = true from hu) (by decide)⟩
theorem led_keep {s : Ar} {B : Int} (h : Led s) (ok : s.Ok B) (i : Int) : Led (s.keep i).1 := by
  unfold Ar.keep
  by_cases h0 : s.count i = 0
  · rw [if_pos h0]; exact h
  · rw [if_neg h0]
    refine ⟨fun j hj hc => ?_, h.rank⟩
    have hc : upd s.c i.toNat (s.c i.toNat + 1) j = 0 := hc
    by_cases e : j = i.toNat
    · subst e
      rw [upd_same] at hc
      have := ok.c i.toNat
      omega
    · rw [upd_ne _ _ e] at hc
      exact h.wts j hj hc
theorem led_drop {s : Ar} (h : Led s) (i : Int) : Led (s.drop i).1 := by
  unfold Ar.drop
  by_cases h0 : s.count i = 0
  · rw [if_pos h0]; exact h
  · rw [if_neg h0]
    obtain ⟨i1, i2, _⟩ := count_pos h0
    refine ⟨fun j hj hc => ?_, h.rank⟩
    have hc : upd s.c i.toNat (s.c i.toNat - 1) j = 0 := hc
    show (j : Int) ∈ if s.c i.toNat - 1 = 0 then s.wt ++ [i] else s.wt
    by_cases e : j = i.toNat
    · subst e
      rw [upd_same] at hc
      rw [if_pos hc, show ((i.toNat : Nat) : Int) = i by omega]
      simp
    · rw [upd_ne _ _ e] at hc
      have := h.wts j hj hc
      split
      · exact List.mem_append_left _ this
      · exact this
theorem led_drops : ∀ (l : List Int) {s : Ar}, Led s → Led (s.drops l)
  | [], _, h => h
  | k :: r, _, h => led_drops r (led_drop h k)
theorem led_pop {s : Ar} {B : Int} (h : Led s) (ok : s.Ok B) {i : Int} {r : List Int} (hw : s.wt = i :: r) : Led (s.pop i r) := by
  obtain ⟨i1, i2, i3, i4⟩ := ok.wt i (by rw [hw]; simp)
  obtain ⟨ρ, hρ⟩ := h.rank
  have ne : ∀ j, (s.pop i r).u j = true → j ≠ i.toNat ∧ s.u j = true := by
    intro j hj
    by_cases e : j = i.toNat
    · subst e
      have : (s.pop i r).u i.toNat = false := upd_same _ _ _
      rw [this] at hj; cases hj
    · have e2 : (s.pop i r).u j = s.u j := upd_ne _ _ e
      rw [e2] at hj
      exact ⟨e, hj⟩
  refine ⟨fun j hj hc => ?_, ρ, fun j hj y hy y0 => ?_⟩
  · obtain ⟨e, hu⟩ := ne j hj
    have := h.wts j hu hc
    rw [hw] at this
    rcases List.mem_cons.1 this with x | x
    · omega
    · exact x
  · obtain ⟨e, hu⟩ := ne j hj
    have e1 : (s.pop i r).nd j = s.nd j := upd_ne _ _ e
    rw [e1] at hy
    exact hρ j hu y hy y0
theorem led_work {B : Int} : ∀ (m : Nat) {s : Ar}, Led s → s.Ok B → Led (s.work m).1
  | 0, _, h, _ => h
  | m + 1, s, h, ok => by
    unfold Ar.work
    split
    · exact h
    · rename_i i r hw
      exact led_work m (led_drops _ (led_pop h ok hw)) (ok_free1 ok hw)
theorem bump_ge {c : Nat → Int} (y : Int) (i : Nat) : c i ≤ bump c y i := by
  unfold bump upd
  by_cases e : y = 0
  · rw [if_pos e]; omega
  · rw [if_neg e]
    show c i ≤ (if i = y.toNat then c y.toNat + 1 else c i)
    split
    · rename_i e; rw [e]; omega
    · omega
theorem bumps_ge : ∀ (l : List Int) (c : Nat → Int) (i : Nat), c i ≤ bumps c l i
  | [], _, _ => Int.le_refl _
  | y :: r, c, i => Int.le_trans (bump_ge y i) (bumps_ge r (bump c y) i)
/-- The ranks of 1 to n are below this. -/
def topN : Nat → (Nat → Nat) → Nat
  | 0, _ => 0
  | n + 1, f => max (topN n f) (f (n + 1) + 1)
theorem topN_lt {n : Nat} {f : Nat → Nat} {h : Nat} (h1 : 1 ≤ h) (h2 : h ≤ n) : f h < topN n f := by
  induction n with
  | zero => omega
  | succ n ih =>
    unfold topN
    by_cases e : h = n + 1
    · subst e; omega
    · have := ih (by omega); omega
theorem led_put {s : Ar} {B : Int} {H : Nat → Nat} (h : Led s) (ok : s.Ok B) (acc : Acc s H) {x : Nd} (hb : x.kids.any s.bad = false) (hf : s.free ≠ 0) : Led (s.put s.free x) := by
  obtain ⟨f1, f2⟩ := free_in hf
  have f3 := free_unused hf
  obtain ⟨ρ, hρ⟩ := h.rank
  have live : ∀ y, y ∈ x.kids → y ≠ 0 → 1 ≤ y ∧ y ≤ s.n ∧ s.u y.toNat = true := by
    intro y hy y0
    have hc : s.count y ≠ 0 := by
      intro e
      rw [List.any_eq_false] at hb
      exact hb y hy (bad_iff.2 ⟨y0, e⟩)
    obtain ⟨a, b, c⟩ := count_pos hc
    refine ⟨a, b, ?_⟩
    cases hu : s.u y.toNat
    · rw [c, ok.fr _ hu] at hc; exact absurd rfl hc
    · rfl
  refine ⟨fun j hj hc => ?_, upd ρ s.free (topN s.n ρ), fun j hj y hy y0 => ?_⟩
  · have hc : upd (bumps s.c x.kids) s.free 1 j = 0 := hc
    by_cases e : j = s.free
    · subst e; rw [upd_same] at hc; cases hc
    · rw [upd_ne _ _ e] at hc
      have e2 : (s.put s.free x).u j = s.u j := upd_ne _ _ e
      rw [e2] at hj
      have := bumps_ge x.kids s.c j
      have := ok.c j
      exact h.wts j hj (by omega)
  · by_cases e : j = s.free
    · subst e
      have hy' : y ∈ x.kids := by
        have : (s.put s.free x).nd s.free = x := upd_same _ _ _
        rwa [this] at hy
      obtain ⟨a, b, c⟩ := live y hy' y0
      rw [upd_same, upd_ne _ _ (by intro e; rw [e, f3] at c; cases c)]
      exact topN_lt (by omega) (by omega)
    · have e1 : (s.put s.free x).nd j = s.nd j := upd_ne _ _ e
      have e2 : (s.put s.free x).u j = s.u j := upd_ne _ _ e
      rw [e1] at hy
      rw [e2] at hj
      have hlt := hρ j hj y hy y0
      have hy1 := acc.kids j hj y hy
      have hj1 := acc.nz j hj
      have hu : s.u y.toNat = true := by
        cases hu : s.u y.toNat
        · exfalso
          have hc := acc.eq y.toNat (by omega) (by omega)
          rw [ok.fr _ hu] at hc
          have h1 : ctr s y.toNat j ≤ refs s y.toNat := sumN_le hj1.1 hj1.2
          have h2 : 1 ≤ ctr s y.toNat j := by
            unfold ctr
            rw [hj, if_pos rfl, show ((y.toNat : Nat) : Int) = y by omega]
            exact List.count_pos_iff.2 hy
          omega
        · rfl
      rw [upd_ne _ _ e, upd_ne _ _ (by intro e; rw [e, f3] at hu; cases hu)]
      exact hlt
theorem led_make {s : Ar} {B : Int} {H : Nat → Nat} (h : Led s) (ok : s.Ok B) (acc : Acc s H) (x : Nd) : Led (s.make x).1 := by
  unfold Ar.make
  split
  · exact h
  · split
    · exact h
    · split
      · exact h
      · rename_i h1 h2 h3
        exact led_put h ok acc (by simpa using h2) h3

theorem usedN_zero {n : Nat} {u : Nat → Bool} (h : ∀ i, 1 ≤ i → i ≤ n → u i = false) : usedN n u = 0 := by
  induction n with
  | zero => rfl
  | succ n ih => rw [usedN_succ, ih fun i h1 h2 => h i h1 (by omega), h (n + 1) (by omega) (Nat.le_refl _)]; rfl
theorem sumN_pos {n : Nat} {f : Nat → Nat} (h : 1 ≤ sumN n f) : ∃ i, 1 ≤ i ∧ i ≤ n ∧ 1 ≤ f i := by
  induction n with
  | zero => simp [sumN] at h
  | succ n ih =>
    unfold sumN at h
    by_cases e : 1 ≤ f (n + 1)
    · exact ⟨n + 1, by omega, by omega, e⟩
    · obtain ⟨i, a, b, c⟩ := ih (by omega)
      exact ⟨i, a, by omega, c⟩
/-- Nobody has anything, and nobody waits: nothing is used. -/
theorem led_empty {s : Ar} {B : Int} {H : Nat → Nat} (h : Led s) (ok : s.Ok B) (acc : Acc s H) (h0 : ∀ k, 1 ≤ k → H k = 0) (hw : s.wt = []) : ∀ i, s.u i = false := by
  obtain ⟨ρ, hρ⟩ := h.rank
  have up : ∀ i, s.u i = true → ∃ j, s.u j = true ∧ ρ i < ρ j := by
    intro i hi
    obtain ⟨i1, i2⟩ := acc.nz i hi
    have hc : s.c i ≠ 0 := fun e => by have := h.wts i hi e; rw [hw] at this; cases this
    have he := acc.eq i i1 i2
    rw [h0 i i1] at he
    have := ok.c i
    obtain ⟨j, j1, j2, j3⟩ := sumN_pos (n := s.n) (f := ctr s i) (by show 1 ≤ refs s i; omega)
    unfold ctr at j3
    cases hj : s.u j
    · rw [hj] at j3; simp at j3
    · rw [hj, if_pos rfl] at j3
      refine ⟨j, hj, ?_⟩
      have := hρ j hj i (List.count_pos_iff.1 j3) (by omega)
      simpa using this
  have no : ∀ d i, s.u i = true → topN s.n ρ ≤ ρ i + d → False := by
    intro d
    induction d with
    | zero =>
      intro i hi hd
      obtain ⟨i1, i2⟩ := acc.nz i hi
      have := topN_lt (f := ρ) i1 i2
      omega
    | succ d ih =>
      intro i hi hd
      obtain ⟨j, hj, hlt⟩ := up i hi
      exact ih j hj (by omega)
  intro i
  cases hi : s.u i
  · rfl
  · exact (no (topN s.n ρ) i hi (by omega)).elim
theorem led_busy {s : Ar} {B : Int} {H : Nat → Nat} (h : Led s) (ok : s.Ok B) (acc : Acc s H) (h0 : ∀ k, 1 ≤ k → H k = 0) (hw : s.wt = []) : s.busy = 0 := by
  rw [ok.busy, usedN_zero fun i _ _ => led_empty h ok acc h0 hw i]
  rfl
end Go.Proofs.Ytcdmebjggdhhdaa
