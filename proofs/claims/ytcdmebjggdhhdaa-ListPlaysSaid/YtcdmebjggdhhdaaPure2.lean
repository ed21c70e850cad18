/- The plain arena: leaves made one behind the other; the least free handle. -/
import Derived.Test.YtcdmebjggdhhdaaPure
namespace Go.Proofs.Ytcdmebjggdhhdaa

theorem freeFrom_is {s : Ar} {x : Nat} (hu : s.u x = false) : ∀ (d h : Nat), h ≤ x → x < h + d → (∀ j, h ≤ j → j < x → s.u j = true) → s.freeFrom d h = x
  | 0, h, h1, h2, _ => by omega
  | d + 1, h, h1, h2, ha => by
    unfold Ar.freeFrom
    by_cases e : h = x
    · subst e
      rw [if_neg (by rw [hu]; decide)]
    · rw [if_pos (ha h (Nat.le_refl _) (by omega))]
      exact freeFrom_is hu d (h + 1) (by omega) (by omega) fun j h1 h2 => ha j (by omega) h2
theorem freeFrom_none {s : Ar} : ∀ (d h : Nat), (∀ j, h ≤ j → j < h + d → s.u j = true) → s.freeFrom d h = 0
  | 0, _, _ => rfl
  | d + 1, h, ha => by
    unfold Ar.freeFrom
    rw [if_pos (ha h (Nat.le_refl _) (by omega))]
    exact freeFrom_none d (h + 1) fun j h1 h2 => ha j (by omega) (by omega)
theorem free_is {s : Ar} {x : Nat} (h1 : 1 ≤ x) (h2 : x ≤ s.n) (hu : s.u x = false) (ha : ∀ j, 1 ≤ j → j < x → s.u j = true) : s.free = x :=
  freeFrom_is hu s.n 1 h1 (by omega) ha
theorem free_none {s : Ar} (ha : ∀ j, 1 ≤ j → j ≤ s.n → s.u j = true) : s.free = 0 := freeFrom_none s.n 1 fun j h1 h2 => ha j h1 (by omega)

/-- A node without kids. -/
theorem make_leaf {s : Ar} {x : Nd} (ht : 1 ≤ x.tag ∧ x.tag ≤ 6) (hk : x.kids = [0, 0, 0, 0]) (hf : s.free ≠ 0) : s.make x = (s.put s.free x, (s.free : Int), 0) := by
  unfold Ar.make
  rw [if_neg (by omega), if_neg (by rw [hk]; simp [Ar.bad]), if_neg hf]
theorem make_none {s : Ar} {x : Nd} (ht : 1 ≤ x.tag ∧ x.tag ≤ 6) (hk : x.kids = [0, 0, 0, 0]) (hf : s.free = 0) : s.make x = (s, 0, 2) := by
  unfold Ar.make
  rw [if_neg (by omega), if_neg (by rw [hk]; simp [Ar.bad]), if_pos hf]
theorem bumps_zero (c : Nat → Int) : bumps c [0, 0, 0, 0] = c := rfl
theorem drop_zero (s : Ar) : s.drop 0 = (s, 9) := by
  unfold Ar.drop Ar.count
  rw [if_pos (by rw [if_pos (by omega)])]
theorem drops_zero (s : Ar) : s.drops [0, 0, 0, 0] = s := by
  simp [Ar.drops, drop_zero]

def leaf : Nd := ⟨1, 0, 0, 0, 0, 0, 0⟩
/-- i leaves, one behind the other. -/
def Lf (n i : Nat) : Ar := ⟨n, fun j => if 1 ≤ j ∧ j ≤ i then leaf else Nd.zero, fun j => if 1 ≤ j ∧ j ≤ i then 1 else 0, fun j => decide (1 ≤ j ∧ j ≤ i), [], i, i⟩
theorem Lf_zero (n : Nat) : Lf n 0 = Ar.new n := by
  unfold Lf Ar.new
  congr 1
  · funext j; exact if_neg (by omega)
  · funext j; exact if_neg (by omega)
  · funext j; exact decide_eq_false (by omega)
theorem Lf_make {n i : Nat} (h : i < n) : (Lf n i).make leaf = (Lf n (i + 1), ((i + 1 : Nat) : Int), 0) := by
  have hf : (Lf n i).free = i + 1 := free_is (by omega) h (decide_eq_false (by omega)) fun j h1 h2 => decide_eq_true (by omega)
  rw [make_leaf (by decide) rfl (by omega), hf]
  congr 1
  unfold Ar.put
  show (⟨n, _, _, _, [], _, _⟩ : Ar) = _
  unfold Lf
  congr 1
  · funext j
    show upd _ _ _ j = _
    by_cases e : j = i + 1
    · subst e; rw [upd_same, if_pos (by omega)]
    · rw [upd_ne _ _ e]
      show (if 1 ≤ j ∧ j ≤ i then leaf else Nd.zero) = _
      by_cases g : 1 ≤ j ∧ j ≤ i
      · rw [if_pos g, if_pos (by omega)]
      · rw [if_neg g, if_neg (by omega)]
  · funext j
    show upd (bumps _ [0, 0, 0, 0]) _ _ j = _
    rw [bumps_zero]
    by_cases e : j = i + 1
    · subst e; rw [upd_same, if_pos (by omega)]
    · rw [upd_ne _ _ e]
      show (if 1 ≤ j ∧ j ≤ i then (1 : Int) else 0) = _
      by_cases g : 1 ≤ j ∧ j ≤ i
      · rw [if_pos g, if_pos (by omega)]
      · rw [if_neg g, if_neg (by omega)]
  · funext j
    show upd _ _ _ j = _
    by_cases e : j = i + 1
    · subst e; rw [upd_same]; exact (decide_eq_true (by omega)).symm
    · rw [upd_ne _ _ e]
      show decide (1 ≤ j ∧ j ≤ i) = _
      by_cases g : 1 ≤ j ∧ j ≤ i
      · rw [decide_eq_true g, decide_eq_true (by omega)]
      · rw [decide_eq_false g, decide_eq_false (by omega)]
theorem Lf_full (n : Nat) : (Lf n n).make leaf = (Lf n n, 0, 2) :=
  make_none (by decide) rfl (free_none fun j h1 h2 => decide_eq_true ⟨h1, h2⟩)
theorem Lf_ok {n : Nat} (h1 : 1 ≤ n) (h2 : n ≤ 6000) : ∀ i, i ≤ n → (Lf n i).Ok (4 * i)
  | 0, _ => by rw [Lf_zero]; exact ok_new h1 h2
  | i + 1, h => by
    have := ok_make (Lf_ok h1 h2 i (by omega)) leaf
    rw [Lf_make (by omega)] at this
    exact this.mono (by omega)

/-- A leaf is made, dropped, freed: nobody waits any more. -/
theorem leaf_cycle {s : Ar} {x : Nd} (hw : s.wt = []) (hk : x.kids = [0, 0, 0, 0]) (hf : s.free ≠ 0) :
    ∃ t u, (s.put s.free x).drop s.free = (t, 0) ∧ t.work 1 = (u, 1) ∧ u.wt = [] ∧ u.n = s.n ∧ u.made = s.made + 1 := by
  obtain ⟨f1, f2⟩ := free_in hf
  have hc : (s.put s.free x).count s.free = 1 := by
    unfold Ar.count
    rw [if_neg (by show ¬ ((s.free : Int) < 1 ∨ (s.n : Int) < s.free); omega)]
    exact upd_same _ _ _
  have hc' : (s.put s.free x).c (s.free : Int).toNat = 1 := upd_same _ _ _
  refine ⟨(s.put s.free x).drop1 s.free, ((s.put s.free x).drop1 s.free).free1 s.free [], ?_, ?_, ?_, ?_, ?_⟩
  · unfold Ar.drop
    rw [hc, if_neg (by decide)]
  · have h : ((s.put s.free x).drop1 s.free).wt = [(s.free : Int)] := by
      unfold Ar.drop1
      rw [hc']
      show s.wt ++ [(s.free : Int)] = _
      rw [hw]; rfl
    unfold Ar.work
    rw [h]
    rfl
  · rw [free1_eq]
    have : (((s.put s.free x).drop1 s.free).nd (s.free : Int).toNat).kids = [0, 0, 0, 0] := by
      have : ((s.put s.free x).drop1 s.free).nd (s.free : Int).toNat = x := upd_same _ _ _
      rw [this, hk]
    rw [this, drops_zero]
    rfl
  · rw [free1_eq, drops_n]
    rfl
  · rw [free1_eq, drops_made]
    rfl

/-- Leaves that wait are all freed. -/
theorem work_leaves : ∀ (l : List Int) (m : Nat) (s : Ar), s.wt = l → l.Nodup → (∀ h, h ∈ l → 0 ≤ h ∧ (s.nd h.toNat).kids = [0, 0, 0, 0]) → l.length ≤ m →
    ∃ s', s.work m = (s', l.length) ∧ s'.wt = [] ∧ s'.busy = s.busy - l.length ∧ s'.c = s.c ∧ s'.n = s.n ∧ s'.made = s.made ∧ (∀ j : Nat, (j : Int) ∉ l → s'.nd j = s.nd j ∧ s'.u j = s.u j)
  | [], m, s, hw, _, _, _ => by
    refine ⟨s, ?_, hw, by simp, rfl, rfl, rfl, fun _ _ => ⟨rfl, rfl⟩⟩
    cases m with
    | zero => rfl
    | succ m => simp [Ar.work, hw]
  | h :: r, 0, s, _, _, _, hm => by simp at hm
  | h :: r, m + 1, s, hw, hn, hk, hm => by
    rw [List.nodup_cons] at hn
    have e : s.free1 h r = s.pop h r := by rw [free1_eq, (hk h (by simp)).2, drops_zero]
    have h0 := (hk h (by simp)).1
    obtain ⟨s', e1, e2, e3, e4, e5, e6, e7⟩ := work_leaves r m (s.pop h r) rfl hn.2 (fun x hx => by
      obtain ⟨a, b⟩ := hk x (List.mem_cons_of_mem _ hx)
      refine ⟨a, ?_⟩
      show (upd s.nd h.toNat Nd.zero x.toNat).kids = _
      rw [upd_ne _ _ (by intro e; have : x = h := by omega
                         subst this; exact hn.1 hx)]
      exact b) (by simpa using hm)
    refine ⟨s', ?_, e2, ?_, e4, e5, e6, fun j hj => ?_⟩
    · unfold Ar.work
      rw [hw]
      simp only [e, e1, List.length_cons]
    · rw [e3]
      show s.busy - 1 - _ = _
      simp; omega
    · simp only [List.mem_cons, not_or] at hj
      obtain ⟨a, b⟩ := e7 j hj.2
      rw [a, b]
      have ne : j ≠ h.toNat := by omega
      exact ⟨upd_ne _ _ ne, upd_ne _ _ ne⟩

/-- A number reduced twice, as Go does. -/
theorem pick (k m : Int) (hm : 1 ≤ m) : 0 ≤ k.tmod m % m ∧ k.tmod m % m < m ∧ -m < k.tmod m ∧ k.tmod m < m := by
  have a := Int.emod_nonneg (k.tmod m) (show m ≠ 0 by omega)
  have b := Int.emod_lt_of_pos (k.tmod m) (show 0 < m by omega)
  have c := Int.tmod_lt_of_pos k (show 0 < m by omega)
  have d := Int.tmod_lt_of_pos (-k) (show 0 < m by omega)
  rw [Int.neg_tmod] at d
  omega

end Go.Proofs.Ytcdmebjggdhhdaa
