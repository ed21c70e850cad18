/- What is reached in an arena whose counts are told; how many are used where none waits; what Work leaves. Plain. -/
import Derived.Test.YtcdmebjggdhhdaaGd
import Derived.Test.YtcdmebjggdhhdaaRch
namespace Go.Proofs.Ytcdmebjggdhhdaa
theorem count_zero' (s : Ar) : s.count 0 = 0 := if_pos (.inl (by decide))
section
variable {s : Ar}
theorem rch_any {R : List Int} {x : Int} (h : Rch s R x) : ∃ r, r ∈ R ∧ Rch s [r] x := by
  induction h with
  | root h1 h2 => exact ⟨_, h1, .root List.mem_cons_self h2⟩
  | kid _ h2 h3 ih =>
    obtain ⟨r, a, b⟩ := ih
    exact ⟨r, a, .kid b h2 h3⟩
end
theorem nodup_sub : ∀ {a b : List Int}, a.Nodup → (∀ x, x ∈ a → x ∈ b) → a.length ≤ b.length
  | [], _, _, _ => Nat.zero_le _
  | x :: a, b, hn, h => by
    obtain ⟨h1, h2⟩ := List.nodup_cons.1 hn
    have hx : x ∈ b := h x List.mem_cons_self
    have := nodup_sub (b := b.erase x) h2 fun y hy => by
      have ne : y ≠ x := by rintro rfl; exact h1 hy
      exact (List.mem_erase_of_ne ne).2 (h y (List.mem_cons_of_mem _ hy))
    rw [List.length_erase_of_mem hx] at this
    have := List.length_pos_of_mem hx
    simp only [List.length_cons]
    omega
/-- The used ones. -/
def usedL (s : Ar) : List Int := ((List.range s.n).filter fun i => s.u (i + 1)).map fun (i : Nat) => ((i + 1 : Nat) : Int)
theorem usedL_len (s : Ar) : (usedL s).length = usedN s.n s.u := by unfold usedL usedN; rw [List.length_map]
theorem usedL_mem {s : Ar} {x : Int} : x ∈ usedL s ↔ 1 ≤ x ∧ x ≤ s.n ∧ s.u x.toNat = true := by
  unfold usedL
  rw [List.mem_map]
  constructor
  · rintro ⟨i, hi, rfl⟩
    obtain ⟨h1, h2⟩ := List.mem_filter.1 hi
    have := List.mem_range.1 h1
    refine ⟨by omega, by omega, ?_⟩
    rw [show ((i + 1 : Nat) : Int).toNat = i + 1 by omega]
    exact h2
  · rintro ⟨h1, h2, h3⟩
    refine ⟨x.toNat - 1, List.mem_filter.2 ⟨List.mem_range.2 (by omega), ?_⟩, by omega⟩
    rw [show x.toNat - 1 + 1 = x.toNat by omega]
    exact h3
theorem usedL_nodup (s : Ar) : (usedL s).Nodup := by
  unfold usedL List.Nodup
  rw [List.pairwise_map]
  exact (List.nodup_range.filter _).imp fun h => by omega
section
variable {s : Ar} {L : List Int}
theorem Gd.busy_is (g : Gd s L) : s.busy = ((usedL s).length : Int) := by
  obtain ⟨B, h⟩ := g.ok
  rw [h.busy, usedL_len]
theorem Gd.used (g : Gd s L) {x : Int} (h : s.count x ≠ 0) : x ∈ usedL s := by
  obtain ⟨B, k⟩ := g.ok
  obtain ⟨h1, h2, h3⟩ := count_pos h
  refine usedL_mem.2 ⟨h1, h2, ?_⟩
  cases hu : s.u x.toNat
  · exact absurd (h3.trans (k.fr _ hu)) h
  · rfl
/-- Whatever is reached is used. -/
theorem reach_busy (g : Gd s L) {R ys : List Int} (ha : Asc ys) (hy : ∀ x, x ∈ ys ↔ Rch s R x) : (ys.length : Int) ≤ s.busy := by
  rw [g.busy_is]
  have := nodup_sub ha.nodup fun x hx => g.used ((hy x).1 hx).live
  omega
/-- Where none waits, whoever is used is reached from what somebody has. -/
theorem used_reached (g : Gd s L) (hw : s.wt = []) {x : Int} (hx : x ∈ usedL s) : Rch s L x := by
  obtain ⟨ρ, hρ⟩ := g.led.rank
  obtain ⟨B, ok⟩ := g.ok
  have acc := g.acc
  have nz : ∀ j, s.u j = true → s.c j ≠ 0 := fun j hj hc => by
    have := g.led.wts j hj hc
    rw [hw] at this
    cases this
  have main : ∀ d (i : Nat), topN s.n ρ ≤ ρ i + d → s.u i = true → Rch s L (i : Int) := by
    intro d
    induction d with
    | zero =>
      intro i hd hi
      obtain ⟨i1, i2⟩ := acc.nz i hi
      have := topN_lt (f := ρ) (n := s.n) (h := i) (by omega) (by omega)
      omega
    | succ d ih =>
      intro i hd hi
      obtain ⟨i1, i2⟩ := acc.nz i hi
      have he := acc.eq i i1 i2
      have hci := nz i hi
      have hcnt : s.count (i : Int) ≠ 0 := by
        unfold Ar.count
        rw [if_neg (by omega)]
        simpa using hci
      by_cases hh : cnt L i = 0
      · have hc := (ok.c i).1
        obtain ⟨j, j1, j2, j3⟩ := sumN_pos (n := s.n) (f := ctr s i) (by show 1 ≤ refs s i; omega)
        unfold ctr at j3
        cases hj : s.u j
        · rw [hj] at j3; simp at j3
        · rw [hj, if_pos rfl] at j3
          have hk : (i : Int) ∈ (s.nd j).kids := List.count_pos_iff.1 j3
          have hlt := hρ j hj i hk (by omega)
          have hlt' : ρ i < ρ j := by simpa using hlt
          exact .kid (ih j (by omega) hj) (by simpa using hk) hcnt
      · exact .root (List.count_pos_iff.1 (Nat.pos_of_ne_zero hh)) hcnt
  obtain ⟨x1, x2, x3⟩ := usedL_mem.1 hx
  have := main (topN s.n ρ) x.toNat (by omega) x3
  rwa [show ((x.toNat : Nat) : Int) = x by omega] at this
/-- Where none waits as many are used as are reached. -/
theorem busy_reach (g : Gd s L) (hw : s.wt = []) {R ys : List Int} (hR : ∀ x, Rch s L x → Rch s R x) (ha : Asc ys) (hy : ∀ x, x ∈ ys ↔ Rch s R x) : (ys.length : Int) = s.busy := by
  have h1 := reach_busy g ha hy
  rw [g.busy_is] at h1 ⊢
  have := nodup_sub (usedL_nodup s) fun x hx => (hy x).2 (hR x (used_reached g hw hx))
  omega
end
theorem gd_free1 {s : Ar} {L : List Int} (g : Gd s L) {i : Int} {r : List Int} (hw : s.wt = i :: r) : Gd (s.free1 i r) L := by
  have := gd_work g 1
  unfold Ar.work at this
  rw [hw] at this
  exact this
theorem usedN_pos' {n : Nat} {u : Nat → Bool} {i : Nat} (h1 : 1 ≤ i) (h2 : i ≤ n) (hu : u i = true) : 1 ≤ usedN n u := by
  unfold usedN
  refine List.length_pos_of_mem (a := i - 1) (List.mem_filter.2 ⟨List.mem_range.2 (by omega), ?_⟩)
  rw [show i - 1 + 1 = i by omega]; exact hu
/-- Where more is freed than is used none waits. -/
theorem work_none {L : List Int} : ∀ (m : Nat) (s : Ar), Gd s L → s.busy ≤ m → (s.work m).1.wt = []
  | 0, s, g, hb => by
    show s.wt = []
    obtain ⟨B, ok⟩ := g.ok
    cases hw : s.wt with
    | nil => rfl
    | cons h r =>
      obtain ⟨h1, h2, h3, _⟩ := ok.wt h (by rw [hw]; simp)
      have := usedN_pos' (n := s.n) (i := h.toNat) (by omega) (by omega) h3
      have := ok.busy
      omega
  | m + 1, s, g, hb => by
    unfold Ar.work
    cases hw : s.wt with
    | nil => exact hw
    | cons h r =>
      refine work_none m _ (gd_free1 g hw) ?_
      rw [free1_eq, drops_busy]
      show s.busy - 1 ≤ m
      omega
theorem work_busy (m : Nat) (s : Ar) : (s.work m).1.busy = s.busy - (s.work m).2 := by
  induction m generalizing s with
  | zero => show s.busy = s.busy - (0 : Nat); omega
  | succ m ih =>
    unfold Ar.work
    split
    · show s.busy = s.busy - (0 : Nat); omega
    · rename_i i r hw
      have := ih (s.free1 i r)
      have e : (s.free1 i r).busy = s.busy - 1 := by rw [free1_eq, drops_busy]; rfl
      simp only
      omega
theorem work_made (m : Nat) (s : Ar) : (s.work m).1.made = s.made := by
  induction m generalizing s with
  | zero => rfl
  | succ m ih =>
    unfold Ar.work
    split
    · rfl
    · rename_i i r hw
      refine (ih (s.free1 i r)).trans ?_
      rw [free1_eq, drops_made]
      rfl
theorem work_nn (m : Nat) (s : Ar) : (s.work m).1.n = s.n := by
  induction m generalizing s with
  | zero => rfl
  | succ m ih =>
    unfold Ar.work
    split
    · rfl
    · rename_i i r hw
      exact (ih (s.free1 i r)).trans (by rw [free1_eq, drops_n]; rfl)
section
variable {s s' : Ar} {L L' : List Int}
/-- What is reached from somebody's node stays so, whatever is made. -/
theorem rch_ext (g : Gd s L) (g' : Gd s' L') (E : Ext s s') {h : Int} (h0 : 0 ≤ h ∧ h ≤ s.n) (hm : h = 0 ∨ h ∈ L) (hm' : h = 0 ∨ h ∈ L') (x : Int) : Rch s [h] x ↔ Rch s' [h] x := by
  have live : ∀ {t : Ar} {M : List Int}, Gd t M → t.n = s.n → (h = 0 ∨ h ∈ M) → t.count h ≠ 0 ∨ h = 0 := fun {t} {M} gt hn hh => by
    rcases hh with hh | hh
    · exact .inr hh
    · by_cases c : h = 0
      · exact .inr c
      · exact .inl (gt.live (by omega) (by rw [hn]; exact h0.2) hh)
  constructor
  · intro hr
    induction hr with
    | root a b =>
      obtain rfl := List.mem_singleton.1 a
      rcases live g' E.n hm' with c | c
      · exact .root List.mem_cons_self c
      · subst c; exact absurd (count_zero' s) b
    | kid hy a b ih =>
      rename_i y k
      obtain ⟨u1, u2, u3⟩ := usedL_mem.1 (g.used hy.live)
      have hk : k ∈ (s'.nd y.toNat).kids := by rw [E.nd _ u3]; exact a
      obtain ⟨k1, _⟩ := count_pos b
      exact .kid ih hk (g'.kid u1 (by rw [E.n]; exact u2) (E.u _ u3) hk k1).2
  · intro hr
    have both : Rch s [h] x := by
      induction hr with
      | root a b =>
        obtain rfl := List.mem_singleton.1 a
        rcases live g rfl hm with c | c
        · exact .root List.mem_cons_self c
        · subst c; exact absurd (count_zero' s') b
      | kid hy a b ih =>
        rename_i y k
        obtain ⟨u1, u2, u3⟩ := usedL_mem.1 (g.used ih.live)
        have hk : k ∈ (s.nd y.toNat).kids := by rw [← E.nd _ u3]; exact a
        obtain ⟨k1, _⟩ := count_pos b
        exact .kid ih hk (g.kid u1 u2 u3 hk k1).2
    exact both
theorem rch_free1 (g : Gd s L) {i : Int} {r : List Int} (hw : s.wt = i :: r) {h : Int} (h0 : 0 ≤ h ∧ h ≤ s.n) (hm : h = 0 ∨ h ∈ L) (x : Int) : Rch s [h] x ↔ Rch (s.free1 i r) [h] x := by
  have g' := gd_free1 g hw
  obtain ⟨B, ok⟩ := g.ok
  obtain ⟨i1, i2, _, i4⟩ := ok.wt i (by rw [hw]; simp)
  have en : (s.free1 i r).n = s.n := by rw [free1_eq, drops_n]; rfl
  have end_ : ∀ y : Int, s.count y ≠ 0 → (s.free1 i r).nd y.toNat = s.nd y.toNat ∧ (s.free1 i r).u y.toNat = s.u y.toNat := fun y hy => by
    obtain ⟨y1, y2, y3⟩ := count_pos hy
    have ne : y.toNat ≠ i.toNat := fun e => hy (by rw [y3, e, i4])
    rw [free1_eq, drops_nd, drops_u]
    exact ⟨upd_ne _ _ ne, upd_ne _ _ ne⟩
  constructor
  · intro hr
    induction hr with
    | root a b =>
      obtain rfl := List.mem_singleton.1 a
      rcases hm with hm | hm
      · subst hm; exact absurd (count_zero' s) b
      · obtain ⟨b1, _⟩ := count_pos b
        exact .root List.mem_cons_self (g'.live b1 (by rw [en]; exact h0.2) hm)
    | kid hy a b ih =>
      rename_i y k
      obtain ⟨u1, u2, u3⟩ := usedL_mem.1 (g.used hy.live)
      obtain ⟨e1, e2⟩ := end_ y hy.live
      have hk : k ∈ ((s.free1 i r).nd y.toNat).kids := by rw [e1]; exact a
      obtain ⟨k1, _⟩ := count_pos b
      exact .kid ih hk (g'.kid u1 (by rw [en]; exact u2) (by rw [e2]; exact u3) hk k1).2
  · intro hr
    induction hr with
    | root a b =>
      obtain rfl := List.mem_singleton.1 a
      rcases hm with hm | hm
      · subst hm; exact absurd (count_zero' _) b
      · obtain ⟨b1, _⟩ := count_pos b
        exact .root List.mem_cons_self (g.live b1 h0.2 hm)
    | kid hy a b ih =>
      rename_i y k
      obtain ⟨u1, u2, u3⟩ := usedL_mem.1 (g.used ih.live)
      obtain ⟨e1, _⟩ := end_ y ih.live
      have hk : k ∈ (s.nd y.toNat).kids := by rw [← e1]; exact a
      obtain ⟨k1, _⟩ := count_pos b
      exact .kid ih hk (g.kid u1 u2 u3 hk k1).2
theorem rch_work {h : Int} (hm : h = 0 ∨ h ∈ L) (x : Int) : ∀ (m : Nat) {s : Ar}, Gd s L → (0 ≤ h ∧ h ≤ s.n) → (Rch s [h] x ↔ Rch (s.work m).1 [h] x)
  | 0, _, _, _ => Iff.rfl
  | m + 1, s, g, h0 => by
    unfold Ar.work
    split
    · exact Iff.rfl
    · rename_i i r hw
      exact (rch_free1 g hw h0 hm x).trans (rch_work hm x m (gd_free1 g hw) ⟨h0.1, by rw [free1_eq, drops_n]; exact h0.2⟩)
end
end Go.Proofs.Ytcdmebjggdhhdaa
