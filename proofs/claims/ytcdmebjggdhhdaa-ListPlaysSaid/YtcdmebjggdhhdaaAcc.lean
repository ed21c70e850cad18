/- The plain arena: each count is how often a node is a kid of a used one, and how often somebody has it. -/
import Derived.Test.YtcdmebjggdhhdaaPure2
namespace Go.Proofs.Ytcdmebjggdhhdaa

def sumN : Nat → (Nat → Nat) → Nat
  | 0, _ => 0
  | n + 1, f => sumN n f + f (n + 1)
theorem sumN_congr {n : Nat} {f g : Nat → Nat} (h : ∀ i, 1 ≤ i → i ≤ n → f i = g i) : sumN n f = sumN n g := by
  induction n with
  | zero => rfl
  | succ n ih =>
    unfold sumN
    rw [ih fun i h1 h2 => h i h1 (by omega), h (n + 1) (by omega) (Nat.le_refl _)]
theorem sumN_upd {n : Nat} {f : Nat → Nat} {h v : Nat} (h1 : 1 ≤ h) (h2 : h ≤ n) : sumN n (upd f h v) + f h = sumN n f + v := by
  induction n with
  | zero => omega
  | succ n ih =>
    unfold sumN
    by_cases e : h = n + 1
    · subst e
      rw [upd_same, sumN_congr (g := f) fun i _ hi => upd_ne _ _ (by omega)]
      omega
    · have := ih (by omega)
      rw [upd_ne _ _ (show n + 1 ≠ h by omega)]
      omega
theorem sumN_le {n : Nat} {f : Nat → Nat} {h : Nat} (h1 : 1 ≤ h) (h2 : h ≤ n) : f h ≤ sumN n f := by
  induction n with
  | zero => omega
  | succ n ih =>
    unfold sumN
    by_cases e : h = n + 1
    · subst e; omega
    · have := ih (by omega); omega
theorem sumN_zero {n : Nat} {f : Nat → Nat} (h : ∀ i, 1 ≤ i → i ≤ n → f i = 0) : sumN n f = 0 := by
  induction n with
  | zero => rfl
  | succ n ih =>
    unfold sumN
    rw [ih fun i h1 h2 => h i h1 (by omega), h (n + 1) (by omega) (Nat.le_refl _)]

/-- How often k is a kid of node h. -/
def ctr (s : Ar) (k : Nat) (h : Nat) : Nat := if s.u h = true then (s.nd h).kids.count (k : Int) else 0
def refs (s : Ar) (k : Nat) : Nat := sumN s.n (ctr s k)

/-- Each count is told: H is how often somebody has a node. -/
structure Acc (s : Ar) (H : Nat → Nat) : Prop where
  eq : ∀ k, 1 ≤ k → k ≤ s.n → s.c k = refs s k + H k
  kids : ∀ h, s.u h = true → ∀ y, y ∈ (s.nd h).kids → 0 ≤ y ∧ y ≤ s.n
  nz : ∀ h, s.u h = true → 1 ≤ h ∧ h ≤ s.n

theorem acc_new (n : Nat) : Acc (Ar.new n) fun _ => 0 :=
  ⟨fun k _ _ => by
    have : refs (Ar.new n) k = 0 := sumN_zero fun i _ _ => rfl
    rw [this]; rfl, fun h hu => absurd (show false = true from hu) (by decide), fun h hu => absurd (show false = true from hu) (by decide)⟩

theorem refs_congr {s t : Ar} (hn : t.n = s.n) (hu : t.u = s.u) (hd : t.nd = s.nd) (k : Nat) : refs t k = refs s k := by
  unfold refs ctr
  rw [hn, hu, hd]

theorem acc_keep {s : Ar} {H : Nat → Nat} (h : Acc s H) {i : Int} (hi : s.count i ≠ 0) : Acc (s.keep i).1 (upd H i.toNat (H i.toNat + 1)) := by
  obtain ⟨i1, i2, e⟩ := count_pos hi
  unfold Ar.keep
  rw [if_neg hi]
  refine ⟨fun k k1 k2 => ?_, h.kids, h.nz⟩
  have hr : refs ({ s with c := upd s.c i.toNat (s.c i.toNat + 1) } : Ar) k = refs s k := rfl
  rw [hr]
  show upd s.c i.toNat (s.c i.toNat + 1) k = _
  by_cases e : k = i.toNat
  · subst e
    rw [upd_same, upd_same, h.eq _ k1 k2]
    omega
  · rw [upd_ne _ _ e, upd_ne _ _ e]
    exact h.eq k k1 k2

theorem acc_drop {s : Ar} {H : Nat → Nat} (h : Acc s H) {i : Int} (i1 : 1 ≤ i) (i2 : i ≤ s.n) (hi : 1 ≤ H i.toNat) :
    (s.drop i).2 = 0 ∧ Acc (s.drop i).1 (upd H i.toNat (H i.toNat - 1)) := by
  have hc := h.eq i.toNat (by omega) (by omega)
  have h0 : s.count i ≠ 0 := by
    unfold Ar.count
    rw [if_neg (by omega)]
    omega
  unfold Ar.drop
  rw [if_neg h0]
  refine ⟨rfl, fun k k1 k2 => ?_, h.kids, h.nz⟩
  have hr : refs (s.drop1 i) k = refs s k := rfl
  show (s.drop1 i).c k = refs (s.drop1 i) k + _
  rw [hr]
  show upd s.c i.toNat (s.c i.toNat - 1) k = _
  by_cases e : k = i.toNat
  · subst e
    rw [upd_same, upd_same, hc]
    omega
  · rw [upd_ne _ _ e, upd_ne _ _ e]
    exact h.eq k k1 k2

/-- So often is k among them. -/
def cnt (l : List Int) (k : Nat) : Nat := l.count (k : Int)
theorem bumps_cnt : ∀ (l : List Int) (c : Nat → Int) {k : Nat}, 1 ≤ k → (∀ y, y ∈ l → 0 ≤ y) → bumps c l k = c k + cnt l k
  | [], c, k, _, _ => by simp [bumps, cnt]
  | y :: r, c, k, hk, hl => by
    have ih := bumps_cnt r (bump c y) hk fun z hz => hl z (List.mem_cons_of_mem _ hz)
    have hy := hl y (by simp)
    simp only [bumps, List.foldl_cons] at ih ⊢
    rw [ih]
    have hb : bump c y k = c k + if (y == (k : Int)) = true then 1 else 0 := by
      by_cases e : y = (k : Int)
      · subst e
        rw [if_pos (by simp), bump, if_neg (by omega)]
        exact upd_same _ _ _
      · rw [if_neg (by simpa using e), bump_other (fun _ => by omega)]
        omega
    rw [hb]
    unfold cnt
    rw [List.count_cons]
    split <;> omega

theorem acc_put {s : Ar} {B : Int} {H : Nat → Nat} (h : Acc s H) (ok : s.Ok B) {x : Nd} (hb : x.kids.any s.bad = false) (hf : s.free ≠ 0) : Acc (s.put s.free x) (upd H s.free (H s.free + 1)) := by
  obtain ⟨f1, f2⟩ := free_in hf
  have f3 := free_unused hf
  have hk : ∀ y, y ∈ x.kids → y = 0 ∨ (1 ≤ y ∧ y ≤ s.n ∧ s.c y.toNat ≠ 0) := by
    intro y hy
    by_cases y0 : y = 0
    · exact .inl y0
    · right
      have hc : s.count y ≠ 0 := by
        intro e
        rw [List.any_eq_false] at hb
        exact hb y hy (bad_iff.2 ⟨y0, e⟩)
      obtain ⟨a, b, c⟩ := count_pos hc
      exact ⟨a, b, c ▸ hc⟩
  have hkn : cnt x.kids s.free = 0 := by
    unfold cnt
    rw [List.count_eq_zero]
    intro hm
    rcases hk _ hm with e | ⟨_, _, e⟩
    · omega
    · exact e (ok.fr _ f3)
  have h0 := h.eq s.free f1 f2
  rw [ok.fr _ f3] at h0
  have hr : ∀ k, refs (s.put s.free x) k = refs s k + cnt x.kids k := by
    intro k
    have e : ctr (s.put s.free x) k = upd (ctr s k) s.free (cnt x.kids k) := by
      funext j
      unfold ctr
      show (if upd s.u s.free true j = true then (upd s.nd s.free x j).kids.count (k : Int) else 0) = _
      by_cases e : j = s.free
      · subst e
        rw [upd_same, upd_same, upd_same, if_pos rfl]
        rfl
      · rw [upd_ne _ _ e, upd_ne _ _ e, upd_ne _ _ e]
    have hs := sumN_upd (f := ctr s k) (v := cnt x.kids k) f1 f2
    have hz : ctr s k s.free = 0 := by unfold ctr; rw [f3]; rfl
    unfold refs
    rw [e]
    show sumN s.n _ = _
    omega
  refine ⟨fun k k1 k2 => ?_, fun j hj y hy => ?_, fun j hj => ?_⟩
  · rw [hr]
    show upd (bumps s.c x.kids) s.free 1 k = _
    by_cases e : k = s.free
    · subst e
      rw [upd_same, upd_same, hkn]
      omega
    · rw [upd_ne _ _ e, upd_ne _ _ e, bumps_cnt x.kids s.c k1 (fun y hy => by rcases hk y hy with e | ⟨e, _⟩ <;> omega), h.eq k k1 k2]
      omega
  · by_cases e : j = s.free
    · subst e
      have hy' : y ∈ x.kids := by
        have : (s.put s.free x).nd s.free = x := upd_same _ _ _
        rwa [this] at hy
      show 0 ≤ y ∧ y ≤ s.n
      rcases hk y hy' with e | ⟨a, b, _⟩ <;> omega
    · have e1 : (s.put s.free x).nd j = s.nd j := upd_ne _ _ e
      have e2 : (s.put s.free x).u j = s.u j := upd_ne _ _ e
      rw [e1] at hy
      rw [e2] at hj
      exact h.kids j hj y hy
  · by_cases e : j = s.free
    · subst e; exact ⟨f1, f2⟩
    · have e2 : (s.put s.free x).u j = s.u j := upd_ne _ _ e
      rw [e2] at hj
      exact h.nz j hj

/-- All of a list that somebody has are dropped. -/
theorem acc_drops : ∀ (l : List Int) {s : Ar} {H : Nat → Nat}, Acc s (fun k => H k + cnt l k) → H 0 = 0 → (∀ y, y ∈ l → 0 ≤ y ∧ y ≤ s.n) → ∃ H', Acc (s.drops l) H' ∧ ∀ k, 1 ≤ k → H' k = H k
  | [], s, H, h, _, _ => ⟨_, h, fun k _ => by simp [cnt]⟩
  | y :: r, s, H, h, h0, hl => by
    obtain ⟨y0, yn⟩ := hl y (by simp)
    have e : s.drops (y :: r) = ((s.drop y).1).drops r := rfl
    rw [e]
    by_cases z : y = 0
    · subst z
      rw [drop_zero]
      refine acc_drops r ⟨fun k k1 k2 => ?_, h.kids, h.nz⟩ h0 fun x hx => hl x (List.mem_cons_of_mem _ hx)
      rw [h.eq k k1 k2]
      have : cnt (0 :: r) k = cnt r k := by unfold cnt; rw [List.count_cons, if_neg (by simp; omega)]; rfl
      rw [this]
    · have hy : 1 ≤ (fun k => H k + cnt (y :: r) k) y.toNat := by
        show 1 ≤ H y.toNat + cnt (y :: r) y.toNat
        have : cnt (y :: r) y.toNat = cnt r y.toNat + 1 := by unfold cnt; rw [show ((y.toNat : Nat) : Int) = y by omega, List.count_cons, if_pos (by simp)]
        omega
      obtain ⟨_, h2⟩ := acc_drop h (by omega) yn hy
      have hn := drop_n s y
      refine acc_drops r (s := (s.drop y).1) ⟨fun k k1 k2 => ?_, h2.kids, h2.nz⟩ h0 fun x hx => by rw [hn]; exact hl x (List.mem_cons_of_mem _ hx)
      rw [h2.eq k k1 k2]
      congr 2
      by_cases e : k = y.toNat
      · subst e
        rw [upd_same]
        have : cnt (y :: r) y.toNat = cnt r y.toNat + 1 := by unfold cnt; rw [show ((y.toNat : Nat) : Int) = y by omega, List.count_cons, if_pos (by simp)]
        rw [this]; omega
      · rw [upd_ne _ _ e]
        have : cnt (y :: r) k = cnt r k := by unfold cnt; rw [List.count_cons, if_neg (by simp; omega)]; rfl
        rw [this]

theorem acc_pop {s : Ar} {B : Int} {H : Nat → Nat} (h : Acc s H) (ok : s.Ok B) {i : Int} {r : List Int} (hw : s.wt = i :: r) : Acc (s.pop i r) (fun k => H k + cnt (s.nd i.toNat).kids k) := by
  obtain ⟨i1, i2, i3, i4⟩ := ok.wt i (by rw [hw]; simp)
  have hr : ∀ k, refs (s.pop i r) k + cnt (s.nd i.toNat).kids k = refs s k := by
    intro k
    have e : ctr (s.pop i r) k = upd (ctr s k) i.toNat 0 := by
      funext j
      unfold ctr
      show (if upd s.u i.toNat false j = true then (upd s.nd i.toNat Nd.zero j).kids.count (k : Int) else 0) = _
      by_cases e : j = i.toNat
      · subst e
        rw [upd_same, if_neg (by decide)]
        exact (upd_same _ _ _).symm
      · rw [upd_ne _ _ e, upd_ne _ _ e]
        exact (upd_ne (ctr s k) 0 e).symm
    have hs := sumN_upd (f := ctr s k) (h := i.toNat) (v := 0) (n := s.n) (by omega) (by omega)
    have hz : ctr s k i.toNat = cnt (s.nd i.toNat).kids k := by unfold ctr; rw [i3]; rfl
    unfold refs
    rw [e]
    show sumN s.n _ + _ = _
    omega
  refine ⟨fun k k1 k2 => ?_, fun j hj y hy => ?_, fun j hj => ?_⟩
  · have := hr k
    show s.c k = _
    rw [h.eq k k1 k2]
    omega
  · by_cases e : j = i.toNat
    · subst e
      have : (s.pop i r).u i.toNat = false := upd_same _ _ _
      rw [this] at hj; cases hj
    · have e1 : (s.pop i r).nd j = s.nd j := upd_ne _ _ e
      have e2 : (s.pop i r).u j = s.u j := upd_ne _ _ e
      rw [e1] at hy
      rw [e2] at hj
      exact h.kids j hj y hy
  · by_cases e : j = i.toNat
    · subst e
      have : (s.pop i r).u i.toNat = false := upd_same _ _ _
      rw [this] at hj; cases hj
    · have e2 : (s.pop i r).u j = s.u j := upd_ne _ _ e
      rw [e2] at hj
      exact h.nz j hj
theorem acc_free1 {s : Ar} {B : Int} {H : Nat → Nat} (h : Acc s H) (ok : s.Ok B) (h0 : H 0 = 0) {i : Int} {r : List Int} (hw : s.wt = i :: r) : ∃ H', Acc (s.free1 i r) H' ∧ ∀ k, 1 ≤ k → H' k = H k := by
  obtain ⟨i1, i2, i3, i4⟩ := ok.wt i (by rw [hw]; simp)
  exact acc_drops _ (acc_pop h ok hw) h0 fun y hy => h.kids _ i3 y hy
theorem Acc.congr {s : Ar} {H H' : Nat → Nat} (h : Acc s H) (e : ∀ k, 1 ≤ k → H' k = H k) : Acc s H' := ⟨fun k k1 k2 => by rw [e k k1]; exact h.eq k k1 k2, h.kids, h.nz⟩
theorem acc_work {B : Int} {H : Nat → Nat} (h0 : H 0 = 0) : ∀ (m : Nat) {s : Ar}, Acc s H → s.Ok B → Acc (s.work m).1 H
  | 0, _, h, _ => h
  | m + 1, s, h, ok => by
    unfold Ar.work
    split
    · exact h
    · rename_i i r hw
      obtain ⟨H', h1, h2⟩ := acc_free1 h ok h0 hw
      exact acc_work h0 m (h1.congr fun k hk => (h2 k hk).symm) (ok_free1 ok hw)

end Go.Proofs.Ytcdmebjggdhhdaa
