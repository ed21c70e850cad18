/- The plain arena: each count is how often a node is a kid of a used one, and how often somebody has it. -/
import Derived.Test.YtdipgcbppggdhaaGpA
import Derived.Lib.EndianBits
namespace Go.Proofs.Ytdipgcbppggdhaa
set_option maxRecDepth 100000

def sumN : Nat → (Nat → Nat) → Nat
  | 0, _ => 0
  | n + 1, f => sumN n f + f (n + 1)
theorem sumN_congr {n : Nat} {f g : Nat → Nat} (h : ∀ i, 1 ≤ i → i ≤ n → f i = g i) : sumN n f = sumN n g := by
  induction n with
  | zero => rfl
  | succ n ih =>
    unfold sumN
    rw [ih fun i h1 h2 => h i h1 (by omega), h (n + 1) (by omega) (Nat.le_refl _)]
theorem sumN_upd {n : Nat} {f : Nat → Nat} {h v : Nat} (h1 : 1 ≤ h) (h2 : h ≤ n) : sumN n (upd f h v) + f h = sumN n f + v := by
  induction n with
  | zero => omega
  | succ n ih =>
    unfold sumN
    by_cases e : h = n + 1
    · subst e
      rw [upd_same, sumN_congr (g := f) fun i _ hi => upd_ne _ _ (by omega)]
      omega
    · have := ih (by omega)
      rw [upd_ne _ _ (show n + 1 ≠ h by omega)]
      omega
theorem sumN_le {n : Nat} {f : Nat → Nat} {h : Nat} (h1 : 1 ≤ h) (h2 : h ≤ n) : f h ≤ sumN n f := by
  induction n with
  | zero => omega
  | succ n ih =>
    unfold sumN
    by_cases e : h = n + 1
    · subst e; omega
    · have := ih (by omega); omega
theorem sumN_zero {n : Nat} {f : Nat → Nat} (h : ∀ i, 1 ≤ i → i ≤ n → f i = 0) : sumN n f = 0 := by
  induction n with
  | zero => rfl
  | succ n ih =>
    unfold sumN
    rw [ih fun i h1 h2 => h i h1 (by omega), h (n + 1) (by omega) (Nat.le_refl _)]

/-- How often k is a kid of node h. -/
def ctr (s : Ar) (k : Nat) (h : Nat) : Nat := if s.u h = true then (s.nd h).kids.count (k : Int) else 0
def refs (s : Ar) (k : Nat) : Nat := sumN s.n (ctr s k)

/-- Each count is told: H is how often somebody has a node. -/
structure Acc (s : Ar) (H : Nat → Nat) : Prop where
  eq : ∀ k, 1 ≤ k → k ≤ s.n → s.c k = refs s k + H k
  kids : ∀ h, s.u h = true → ∀ y, y ∈ (s.nd h).kids → 0 ≤ y ∧ y ≤ s.n
  nz : ∀ h, s.u h = true → 1 ≤ h ∧ h ≤ s.n

theorem acc_new (n : Nat) : Acc (Ar.new n) fun _ => 0 :=
  ⟨fun k _ _ => by
    have : refs (Ar.new n) k = 0 := sumN_zero fun i _ _ => rfl
    rw [this]; rfl, fun h hu => absurd (show false = true from hu) (by decide), fun h hu => absurd (show false = true from hu) (by decide)⟩

theorem refs_congr {s t : Ar} (hn : t.n = s.n) (hu : t.u = s.u) (hd : t.nd = s.nd) (k : Nat) : refs t k = refs s k := by
  unfold refs ctr
  rw [hn, hu, hd]

theorem acc_keep {s : Ar} {H : Nat → Nat} (h : Acc s H) {i : Int} (hi : s.count i ≠ 0) : Acc (s.keep i).1 (upd H i.toNat (H i.toNat + 1)) := by
  obtain ⟨i1, i2, e⟩ := count_pos hi
  unfold Ar.keep
  rw [if_neg hi]
  refine ⟨fun k k1 k2 => ?_, h.kids, h.nz⟩
  have hr : refs ({ s with c := upd s.c i.toNat (s.c i.toNat + 1) } : Ar) k = refs s k := rfl
  rw [hr]
  show upd s.c i.toNat (s.c i.toNat + 1) k = _
  by_cases e : k = i.toNat
  · subst e
    rw [upd_same, upd_same, h.eq _ k1 k2]
    omega
  · rw [upd_ne _ _ e, upd_ne _ _ e]
    exact h.eq k k1 k2

theorem acc_drop {s : Ar} {H : Nat → Nat} (h : Acc s H) {i : Int} (i1 : 1 ≤ i) (i2 : i ≤ s.n) (hi : 1 ≤ H i.toNat) :
    (s.drop i).2 = 0 ∧ Acc (s.drop i).1 (upd H i.toNat (H i.toNat - 1)) := by
  have hc := h.eq i.toNat (by omega) (by omega)
  have h0 : s.count i ≠ 0 := by
    unfold Ar.count
    rw [if_neg (by omega)]
    omega
  unfold Ar.drop
  rw [if_neg h0]
  refine ⟨rfl, fun k k1 k2 => ?_, h.kids, h.nz⟩
  have hr : refs (s.drop1 i) k = refs s k := rfl
  show (s.drop1 i).c k = refs (s.drop1 i) k + _
  rw [hr]
  show upd s.c i.toNat (s.c i.toNat - 1) k = _
  by_cases e : k = i.toNat
  · subst e
    rw [upd_same, upd_same, hc]
    omega
  · rw [upd_ne _ _ e, upd_ne _ _ e]
    exact h.eq k k1 k2

/-- So often is k among them. -/
def cnt (l : List Int) (k : Nat) : Nat := l.count (k : Int)
theorem bumps_cnt : ∀ (l : List Int) (c : Nat → Int) {k : Nat}, 1 ≤ k → (∀ y, y ∈ l → 0 ≤ y) → bumps c l k = c k + cnt l k
  | [], c, k, _, _ => by simp [bumps, cnt]
  | y :: r, c, k, hk, hl => by
    have ih := bumps_cnt r (bump c y) hk fun z hz => hl z (List.mem_cons_of_mem _ hz)
    have hy := hl y (by simp)
    simp only [bumps, List.foldl_cons] at ih ⊢
    rw [ih]
    have hb : bump c y k = c k + if (y == (k : Int)) = true then 1 else 0 := by
      by_cases e : y = (k : Int)
      · subst e
        rw [if_pos (by simp), bump, if_neg (by omega)]
        exact upd_same _ _ _
      · rw [if_neg (by simpa using e), bump_other (fun _ => by omega)]
        omega
    rw [hb]
    unfold cnt
    rw [List.count_cons]
    split <;> omega

theorem acc_put {s : Ar} {B : Int} {H : Nat → Nat} (h : Acc s H) (ok : s.Ok B) {x : Nd} (hb : x.kids.any s.bad = false) (hf : s.free ≠ 0) : Acc (s.put s.free x) (upd H s.free (H s.free + 1)) := by
  obtain ⟨f1, f2⟩ := free_in hf
  have f3 := free_unused hf
  have hk : ∀ y, y ∈ x.kids → y = 0 ∨ (1 ≤ y ∧ y ≤ s.n ∧ s.c y.toNat ≠ 0) := by
    intro y hy
    by_cases y0 : y = 0
    · exact .inl y0
    · right
      have hc : s.count y ≠ 0 := by
        intro e
        rw [List.any_eq_false] at hb
        exact hb y hy (bad_iff.2 ⟨y0, e⟩)
      obtain ⟨a, b, c⟩ := count_pos hc
      exact ⟨a, b, c ▸ hc⟩
  have hkn : cnt x.kids s.free = 0 := by
    unfold cnt
    rw [List.count_eq_zero]
    intro hm
    rcases hk _ hm with e | ⟨_, _, e⟩
    · omega
    · exact e (ok.fr _ f3)
  have h0 := h.eq s.free f1 f2
  rw [ok.fr _ f3] at h0
  have hr : ∀ k, refs (s.put s.free x) k = refs s k + cnt x.kids k := by
    intro k
    have e : ctr (s.put s.free x) k = upd (ctr s k) s.free (cnt x.kids k) := by
      funext j
      unfold ctr
      show (if upd s.u s.free true j = true then (upd s.nd s.free x j).kids.count (k : Int) else 0) = _
      by_cases e : j = s.free
      · subst e
        rw [upd_same, upd_same, upd_same, if_pos rfl]
        rfl
      · rw [upd_ne _ _ e, upd_ne _ _ e, upd_ne _ _ e]
    have hs := sumN_upd (f := ctr s k) (v := cnt x.kids k) f1 f2
    have hz : ctr s k s.free = 0 := by unfold ctr; rw [f3]; rfl
    unfold refs
    rw [e]
    show sumN s.n _ = _
    omega
  refine ⟨fun k k1 k2 => ?_, fun j hj y hy => ?_, fun j hj => ?_⟩
  · rw [hr]
    show upd (bumps s.c x.kids) s.free 1 k = _
    by_cases e : k = s.free
    · subst e
      rw [upd_same, upd_same, hkn]
      omega
    · rw [upd_ne _ _ e, upd_ne _ _ e, bumps_cnt x.kids s.c k1 (fun y hy => by rcases hk y hy with e | ⟨e, _⟩ <;> omega), h.eq k k1 k2]
      omega
  · by_cases e : j = s.free
    · subst e
      have hy' : y ∈ x.kids := by
        have : (s.put s.free x).nd s.free = x := upd_same _ _ _
        rwa [this] at hy
      show 0 ≤ y ∧ y ≤ s.n
      rcases hk y hy' with e | ⟨a, b, _⟩ <;> omega
    · have e1 : (s.put s.free x).nd j = s.nd j := upd_ne _ _ e
      have e2 : (s.put s.free x).u j = s.u j := upd_ne _ _ e
      rw [e1] at hy
      rw [e2] at hj
      exact h.kids j hj y hy
  · by_cases e : j = s.free
    · subst e; exact ⟨f1, f2⟩
    · have e2 : (s.put s.free x).u j = s.u j := upd_ne _ _ e
      rw [e2] at hj
      exact h.nz j hj

/-- All of a list that somebody has are dropped. -/
theorem acc_drops : ∀ (l : List Int) {s : Ar} {H : Nat → Nat}, Acc s (fun k => H k + cnt l k) → H 0 = 0 → (∀ y, y ∈ l → 0 ≤ y ∧ y ≤ s.n) → ∃ H', Acc (s.drops l) H' ∧ ∀ k, 1 ≤ k → H' k = H k
  | [], s, H, h, _, _ => ⟨_, h, fun k _ => by simp [cnt]⟩
  | y :: r, s, H, h, h0, hl => by
    obtain ⟨y0, yn⟩ := hl y (by simp)
    have e : s.drops (y :: r) = ((s.drop y).1).drops r := rfl
    rw [e]
    by_cases z : y = 0
    · subst z
      rw [drop_zero]
      refine acc_drops r ⟨fun k k1 k2 => ?_, h.kids, h.nz⟩ h0 fun x hx => hl x (List.mem_cons_of_mem _ hx)
      rw [h.eq k k1 k2]
      have : cnt (0 :: r) k = cnt r k := by unfold cnt; rw [List.count_cons, if_neg (by simp; omega)]; rfl
      rw [this]
    · have hy : 1 ≤ (fun k => H k + cnt (y :: r) k) y.toNat := by
        show 1 ≤ H y.toNat + cnt (y :: r) y.toNat
        have : cnt (y :: r) y.toNat = cnt r y.toNat + 1 := by unfold cnt; rw [show ((y.toNat : Nat) : Int) = y by omega, List.count_cons, if_pos (by simp)]
        omega
      obtain ⟨_, h2⟩ := acc_drop h (by omega) yn hy
      have hn := drop_n s y
      refine acc_drops r (s := (s.drop y).1) ⟨fun k k1 k2 => ?_, h2.kids, h2.nz⟩ h0 fun x hx => by rw [hn]; exact hl x (List.mem_cons_of_mem _ hx)
      rw [h2.eq k k1 k2]
      congr 2
      by_cases e : k = y.toNat
      · subst e
        rw [upd_same]
        have : cnt (y :: r) y.toNat = cnt r y.toNat + 1 := by unfold cnt; rw [show ((y.toNat : Nat) : Int) = y by omega, List.count_cons, if_pos (by simp)]
        rw [this]; omega
      · rw [upd_ne _ _ e]
        have : cnt (y :: r) k = cnt r k := by unfold cnt; rw [List.count_cons, if_neg (by simp; omega)]; rfl
        rw [this]

theorem acc_pop {s : Ar} {B : Int} {H : Nat → Nat} (h : Acc s H) (ok : s.Ok B) {i : Int} {r : List Int} (hw : s.wt = i :: r) : Acc (s.pop i r) (fun k => H k + cnt (s.nd i.toNat).kids k) := by
  obtain ⟨i1, i2, i3, i4⟩ := ok.wt i (by rw [hw]; simp)
  have hr : ∀ k, refs (s.pop i r) k + cnt (s.nd i.toNat).kids k = refs s k := by
    intro k
    have e : ctr (s.pop i r) k = upd (ctr s k) i.toNat 0 := by
      funext j
      unfold ctr
      show (if upd s.u i.toNat false j = true then (upd s.nd i.toNat Nd.zero j).kids.count (k : Int) else 0) = _
      by_cases e : j = i.toNat
      · subst e
        rw [upd_same, if_neg (by decide)]
        exact (upd_same _ _ _).symm
      · rw [upd_ne _ _ e, upd_ne _ _ e]
        exact (upd_ne (ctr s k) 0 e).symm
    have hs := sumN_upd (f := ctr s k) (h := i.toNat) (v := 0) (n := s.n) (by omega) (by omega)
    have hz : ctr s k i.toNat = cnt (s.nd i.toNat).kids k := by unfold ctr; rw [i3]; rfl
    unfold refs
    rw [e]
    show sumN s.n _ + _ = _
    omega
  refine ⟨fun k k1 k2 => ?_, fun j hj y hy => ?_, fun j hj => ?_⟩
  · have := hr k
    show s.c k = _
    rw [h.eq k k1 k2]
    omega
  · by_cases e : j = i.toNat
    · subst e
      have : (s.pop i r).u i.toNat = false := upd_same _ _ _
      rw [this] at hj; cases hj
    · have e1 : (s.pop i r).nd j = s.nd j := upd_ne _ _ e
      have e2 : (s.pop i r).u j = s.u j := upd_ne _ _ e
      rw [e1] at hy
      rw [e2] at hj
      exact h.kids j hj y hy
  · by_cases e : j = i.toNat
    · subst e
      have : (s.pop i r).u i.toNat = false := upd_same _ _ _
      rw [this] at hj; cases hj
    · have e2 : (s.pop i r).u j = s.u j := upd_ne _ _ e
      rw [e2] at hj
      exact h.nz j hj
theorem acc_free1 {s : Ar} {B : Int} {H : Nat → Nat} (h : Acc s H) (ok : s.Ok B) (h0 : H 0 = 0) {i : Int} {r : List Int} (hw : s.wt = i :: r) : ∃ H', Acc (s.free1 i r) H' ∧ ∀ k, 1 ≤ k → H' k = H k := by
  obtain ⟨i1, i2, i3, i4⟩ := ok.wt i (by rw [hw]; simp)
  exact acc_drops _ (acc_pop h ok hw) h0 fun y hy => h.kids _ i3 y hy
theorem Acc.congr {s : Ar} {H H' : Nat → Nat} (h : Acc s H) (e : ∀ k, 1 ≤ k → H' k = H k) : Acc s H' := ⟨fun k k1 k2 => by rw [e k k1]; exact h.eq k k1 k2, h.kids, h.nz⟩
theorem acc_work {B : Int} {H : Nat → Nat} (h0 : H 0 = 0) : ∀ (m : Nat) {s : Ar}, Acc s H → s.Ok B → Acc (s.work m).1 H
  | 0, _, h, _ => h
  | m + 1, s, h, ok => by
    unfold Ar.work
    split
    · exact h
    · rename_i i r hw
      obtain ⟨H', h1, h2⟩ := acc_free1 h ok h0 hw
      exact acc_work h0 m (h1.congr fun k hk => (h2 k hk).symm) (ok_free1 ok hw)

end Go.Proofs.Ytdipgcbppggdhaa
namespace Go.Proofs.Ytdipgcbppggdhaa
set_option maxRecDepth 100000

inductive Tr where
  | nil
  | item (a b : Int)
  | join (l r : Tr)

def Tr.len : Tr → Nat
  | .nil => 0
  | .item _ _ => 1
  | .join l r => l.len + r.len
def Tr.list : Tr → List (Int × Int)
  | .nil => []
  | .item a b => [(a, b)]
  | .join l r => l.list ++ r.list
def Tr.high : Tr → Nat
  | .nil => 0
  | .item _ _ => 1
  | .join l r => 1 + max l.high r.high
/-- Balanced, and with no empty list inside. -/
def Tr.Bal : Tr → Prop
  | .nil => False
  | .item _ _ => True
  | .join l r => l.Bal ∧ r.Bal ∧ l.high ≤ r.high + 1 ∧ r.high ≤ l.high + 1
def Tr.Fine (t : Tr) : Prop := t = .nil ∨ t.Bal

theorem Tr.len_list : ∀ t : Tr, t.list.length = t.len
  | .nil => rfl
  | .item _ _ => rfl
  | .join l r => by simp [Tr.list, Tr.len, Tr.len_list l, Tr.len_list r]
theorem Tr.Bal.high {t : Tr} (h : t.Bal) : 1 ≤ t.high := by
  cases t with
  | nil => exact h.elim
  | item a b => exact Nat.le_refl _
  | join l r => unfold Tr.high; omega
theorem Tr.Bal.len {t : Tr} (h : t.Bal) : 1 ≤ t.len := by
  induction t with
  | nil => exact h.elim
  | item a b => exact Nat.le_refl _
  | join l r il ir => have := il h.1; unfold Tr.len; omega

/-- The arena s holds the tree at handle h. -/
def Rep (s : Ar) : Int → Tr → Prop
  | h, .nil => h = 0
  | h, .item a b => 1 ≤ h ∧ h ≤ s.n ∧ s.u h.toNat = true ∧ s.nd h.toNat = ⟨4, 0, 0, 0, 0, a, b⟩
  | h, .join l r => 1 ≤ h ∧ h ≤ s.n ∧ s.u h.toNat = true ∧ ∃ k0 k1, s.nd h.toNat = ⟨5, k0, k1, 0, 0, ((l.len + r.len : Nat) : Int), 0⟩ ∧ Rep s k0 l ∧ Rep s k1 r

/-- What is used stays as it is. -/
structure Ext (s t : Ar) : Prop where
  n : t.n = s.n
  u : ∀ h, s.u h = true → t.u h = true
  nd : ∀ h, s.u h = true → t.nd h = s.nd h
theorem Ext.refl (s : Ar) : Ext s s := ⟨rfl, fun _ h => h, fun _ _ => rfl⟩
theorem Ext.trans {a b c : Ar} (h : Ext a b) (k : Ext b c) : Ext a c := ⟨k.n.trans h.n, fun j hj => k.u j (h.u j hj), fun j hj => (k.nd j (h.u j hj)).trans (h.nd j hj)⟩
theorem Rep.ext {s t : Ar} (e : Ext s t) : ∀ {x : Tr} {h : Int}, Rep s h x → Rep t h x
  | .nil, _, r => r
  | .item a b, h, ⟨r1, r2, r3, r4⟩ => ⟨r1, by rw [e.n]; exact r2, e.u _ r3, (e.nd _ r3).trans r4⟩
  | .join l r, h, ⟨r1, r2, r3, k0, k1, r4, r5, r6⟩ => ⟨r1, by rw [e.n]; exact r2, e.u _ r3, k0, k1, (e.nd _ r3).trans r4, Rep.ext e r5, Rep.ext e r6⟩
theorem ext_keep (s : Ar) (i : Int) : Ext s (s.keep i).1 := by
  unfold Ar.keep
  split
  · exact Ext.refl s
  · exact ⟨rfl, fun _ h => h, fun _ _ => rfl⟩
theorem ext_drop (s : Ar) (i : Int) : Ext s (s.drop i).1 := ⟨drop_n s i, fun h hu => by rw [drop_u]; exact hu, fun h _ => by rw [drop_nd]⟩
theorem ext_put {s : Ar} (x : Nd) (hf : s.free ≠ 0) : Ext s (s.put s.free x) := by
  have f3 := free_unused hf
  have ne : ∀ h, s.u h = true → h ≠ s.free := fun h hu e => by rw [e, f3] at hu; cases hu
  exact ⟨rfl, fun h hu => (upd_ne _ _ (ne h hu)).trans hu, fun h hu => upd_ne _ _ (ne h hu)⟩

/-- An arena whose counts are told: L is what the caller has, each as often as it has it. -/
structure Good (s : Ar) (B : Int) (L : List Int) : Prop where
  ok : s.Ok B
  acc : Acc s (cnt L)
theorem Good.mono {s : Ar} {B B' : Int} {L : List Int} (h : Good s B L) (hB : B ≤ B') : Good s B' L := ⟨h.ok.mono hB, h.acc⟩
theorem cnt_cons (x : Int) (L : List Int) (k : Nat) : cnt (x :: L) k = cnt L k + if x = (k : Int) then 1 else 0 := by
  unfold cnt
  rw [List.count_cons]
  by_cases e : x = (k : Int)
  · rw [if_pos e, if_pos (by simpa using e)]
  · rw [if_neg e, if_neg (by simpa using e)]
theorem Good.perm {s : Ar} {B : Int} {L L' : List Int} (h : Good s B L) (e : ∀ k, 1 ≤ k → cnt L' k = cnt L k) : Good s B L' := ⟨h.ok, h.acc.congr e⟩
theorem Good.swap {s : Ar} {B : Int} {L : List Int} {x y : Int} (h : Good s B (x :: y :: L)) : Good s B (y :: x :: L) := h.perm fun k _ => by simp only [cnt_cons]; omega
theorem Good.unzero {s : Ar} {B : Int} {L : List Int} (h : Good s B (0 :: L)) : Good s B L := h.perm fun k hk => by rw [cnt_cons, if_neg (by omega)]; rfl
theorem Good.zero {s : Ar} {B : Int} {L : List Int} (h : Good s B L) : Good s B (0 :: L) := h.perm fun k hk => by rw [cnt_cons, if_neg (by omega)]; rfl

/-- What is had is live. -/
theorem Good.live {s : Ar} {B : Int} {L : List Int} (g : Good s B L) {h : Int} (h1 : 1 ≤ h) (h2 : h ≤ s.n) (hH : h ∈ L) : s.count h ≠ 0 := by
  have := g.acc.eq h.toNat (by omega) (by omega)
  have hc : 1 ≤ cnt L h.toNat := by
    unfold cnt
    rw [show ((h.toNat : Nat) : Int) = h by omega]
    exact List.count_pos_iff.2 hH
  unfold Ar.count
  rw [if_neg (by omega)]
  omega
/-- A kid of what is used is live. -/
theorem Good.kid {s : Ar} {B : Int} {L : List Int} (g : Good s B L) {h k : Int} (h1 : 1 ≤ h) (h2 : h ≤ s.n) (hu : s.u h.toNat = true) (hk : k ∈ (s.nd h.toNat).kids) (k1 : 1 ≤ k) : k ≤ s.n ∧ s.count k ≠ 0 := by
  have hn := (g.acc.kids _ hu k hk).2
  refine ⟨hn, ?_⟩
  have e := g.acc.eq k.toNat (by omega) (by omega)
  have hr : 1 ≤ refs s k.toNat := by
    have hle := sumN_le (n := s.n) (f := ctr s k.toNat) (h := h.toNat) (by omega) (by omega)
    have hc : 1 ≤ ctr s k.toNat h.toNat := by
      unfold ctr
      rw [hu, if_pos rfl, show ((k.toNat : Nat) : Int) = k by omega]
      exact List.count_pos_iff.2 hk
    unfold refs
    omega
  unfold Ar.count
  rw [if_neg (by omega)]
  omega
theorem good_new {n : Nat} (h1 : 1 ≤ n) (h2 : n ≤ 6000) : Good (Ar.new n) 0 [] := ⟨ok_new h1 h2, (acc_new n).congr fun k _ => by simp [cnt]⟩
theorem good_keep {s : Ar} {B : Int} {L : List Int} (g : Good s B L) {i : Int} (hi : s.count i ≠ 0) : (s.keep i).2 = 0 ∧ Good (s.keep i).1 (B + 1) (i :: L) := by
  obtain ⟨i1, i2, e⟩ := count_pos hi
  refine ⟨by unfold Ar.keep; rw [if_neg hi], ok_keep g.ok i, (acc_keep g.acc hi).congr fun k k1 => ?_⟩
  rw [cnt_cons]
  by_cases e : k = i.toNat
  · subst e; rw [upd_same, if_pos (by omega)]
  · rw [upd_ne _ _ e, if_neg (by omega)]; rfl
theorem good_drop {s : Ar} {B : Int} {L : List Int} {i : Int} (g : Good s B (i :: L)) (i0 : 0 ≤ i) (i2 : i ≤ s.n) : Good (s.drop i).1 B L := by
  by_cases z : i = 0
  · subst z
    rw [drop_zero]
    exact g.unzero
  · obtain ⟨_, h⟩ := acc_drop g.acc (i := i) (by omega) i2 (by rw [cnt_cons, if_pos (by omega)]; omega)
    refine ⟨ok_drop g.ok i, h.congr fun k k1 => ?_⟩
    by_cases e : k = i.toNat
    · subst e; rw [upd_same, cnt_cons, if_pos (by omega)]; rfl
    · rw [upd_ne _ _ e, cnt_cons, if_neg (by omega)]; rfl
theorem drop_ok {s : Ar} {B : Int} {L : List Int} {i : Int} (g : Good s B (i :: L)) (i0 : 1 ≤ i) (i2 : i ≤ s.n) : (s.drop i).2 = 0 := by
  unfold Ar.drop
  rw [if_neg (g.live i0 i2 (by simp))]
theorem good_work {s : Ar} {B : Int} {L : List Int} (g : Good s B L) (m : Nat) : Good (s.work m).1 B L := by
  have h0 := g.acc.congr (H' := fun k => if k = 0 then 0 else cnt L k) fun k hk => if_neg (by omega)
  exact ⟨ok_work m g.ok, (acc_work (H := fun k => if k = 0 then 0 else cnt L k) (if_pos rfl) m h0 g.ok).congr fun k hk => by show cnt L k = if k = 0 then 0 else cnt L k; rw [if_neg (by omega)]⟩
theorem free_of_room {s : Ar} {B : Int} (ok : s.Ok B) (h : s.busy < s.n) : s.free ≠ 0 := by
  intro e
  have hall : ∀ (d h : Nat), s.freeFrom d h = 0 → 1 ≤ h → ∀ j, h ≤ j → j < h + d → s.u j = true := by
    intro d
    induction d with
    | zero => intro h _ _ j h1 h2; omega
    | succ d ih =>
      intro h hz h0 j h1 h2
      simp only [Ar.freeFrom] at hz
      by_cases hu : s.u h = true
      · rw [if_pos hu] at hz
        by_cases e : j = h
        · subst e; exact hu
        · exact ih (h + 1) hz (by omega) j (by omega) (by omega)
      · rw [if_neg hu] at hz; omega
  have hu := hall s.n 1 e (Nat.le_refl _)
  have hc : usedN s.n s.u = s.n := by
    have : usedN s.n s.u = usedN s.n fun _ => true := usedN_congr fun i h1 h2 => hu i h1 (by omega)
    rw [this]
    unfold usedN
    rw [List.filter_eq_self.2 (by simp), List.length_range]
  have := ok.busy
  omega
/-- A node is made of kids that are live. -/
theorem good_make {s : Ar} {B : Int} {L : List Int} (g : Good s B L) {x : Nd} (ht : 1 ≤ x.tag ∧ x.tag ≤ 6) (hk : ∀ y, y ∈ x.kids → y = 0 ∨ s.count y ≠ 0) (hr : s.busy < s.n) :
    ∃ h : Nat, s.make x = (s.put h x, (h : Int), 0) ∧ Good (s.put h x) (B + 4) ((h : Int) :: L) ∧ Ext s (s.put h x) ∧ 1 ≤ h ∧ h ≤ s.n ∧ (s.put h x).u h = true ∧ (s.put h x).nd h = x ∧ (s.put h x).busy = s.busy + 1 := by
  have hf := free_of_room g.ok hr
  obtain ⟨f1, f2⟩ := free_in hf
  have hb : x.kids.any s.bad = false := by
    rw [List.any_eq_false]
    intro y hy hb
    obtain ⟨a, b⟩ := bad_iff.1 hb
    rcases hk y hy with e | e
    · exact a e
    · exact e b
  refine ⟨s.free, ?_, ⟨ok_put g.ok hb hf, (acc_put g.acc g.ok hb hf).congr fun k k1 => ?_⟩, ext_put x hf, f1, f2, upd_same _ _ _, upd_same _ _ _, rfl⟩
  · unfold Ar.make
    rw [if_neg (by omega), if_neg (by rw [hb]; decide), if_neg hf]
  · rw [cnt_cons]
    by_cases e : k = s.free
    · subst e; rw [upd_same, if_pos rfl]
    · rw [upd_ne _ _ e, if_neg (by omega)]; rfl

def Tr.isNil : Tr → Bool
  | .nil => true
  | _ => false
theorem Tr.Bal.some {t : Tr} (h : t.Bal) : t.isNil = false := by
  cases t with
  | nil => exact h.elim
  | item a b => rfl
  | join l r => rfl
def rotL (x y : Tr) : Tr :=
  match x with
  | .join u v => if v.high ≤ u.high then .join u (.join v y) else
    match v with
    | .join b c => .join (.join u b) (.join c y)
    | _ => .join x y
  | _ => .join x y
def rotR (x y : Tr) : Tr :=
  match y with
  | .join u v => if u.high ≤ v.high then .join (.join x u) v else
    match u with
    | .join b c => .join (.join x b) (.join c v)
    | _ => .join x y
  | _ => .join x y
/-- Two lists that differ by two at most, joined again in balance. -/
def tjoin (x y : Tr) : Tr :=
  if x.isNil = true then y
  else if y.isNil = true then x
  else if y.high + 1 < x.high then rotL x y
  else if x.high + 1 < y.high then rotR x y
  else .join x y

theorem tjoin_nil_left (y : Tr) : tjoin .nil y = y := rfl
theorem tjoin_nil_right (x : Tr) : tjoin x .nil = x := by
  unfold tjoin
  cases x <;> rfl
theorem tjoin_even {x y : Tr} (hx : x.Bal) (hy : y.Bal) (h1 : x.high ≤ y.high + 1) (h2 : y.high ≤ x.high + 1) : tjoin x y = .join x y := by
  unfold tjoin
  rw [if_neg (by rw [hx.some]; decide), if_neg (by rw [hy.some]; decide), if_neg (by omega), if_neg (by omega)]
/-- The left one is higher by two. -/
theorem tjoin_left {x y : Tr} (hx : x.Bal) (hy : y.Bal) (h : x.high = y.high + 2) :
    (∃ u v, x = .join u v ∧ v.high ≤ u.high ∧ tjoin x y = .join u (.join v y)) ∨ (∃ u b c, x = .join u (.join b c) ∧ u.high < (Tr.join b c).high ∧ tjoin x y = .join (.join u b) (.join c y)) := by
  have hy1 := hy.high
  have e : tjoin x y = rotL x y := by
    unfold tjoin
    rw [if_neg (by rw [hx.some]; decide), if_neg (by rw [hy.some]; decide), if_pos (by omega)]
  rw [e]
  cases x with
  | nil => exact hx.elim
  | item a b => have e1 : (Tr.item a b).high = 1 := rfl; omega
  | join u v =>
    by_cases g : v.high ≤ u.high
    · exact .inl ⟨u, v, rfl, g, if_pos g⟩
    · right
      cases v with
      | nil => exact hx.2.1.elim
      | item a b => have := hx.1.high; have e1 : (Tr.item a b).high = 1 := rfl; omega
      | join b c => exact ⟨u, b, c, rfl, by omega, if_neg g⟩
/-- The right one is higher by two. -/
theorem tjoin_right {x y : Tr} (hx : x.Bal) (hy : y.Bal) (h : y.high = x.high + 2) :
    (∃ u v, y = .join u v ∧ u.high ≤ v.high ∧ tjoin x y = .join (.join x u) v) ∨ (∃ b c v, y = .join (.join b c) v ∧ v.high < (Tr.join b c).high ∧ tjoin x y = .join (.join x b) (.join c v)) := by
  have hx1 := hx.high
  have e : tjoin x y = rotR x y := by
    unfold tjoin
    rw [if_neg (by rw [hx.some]; decide), if_neg (by rw [hy.some]; decide), if_neg (by omega), if_pos (by omega)]
  rw [e]
  cases y with
  | nil => exact hy.elim
  | item a b => have e1 : (Tr.item a b).high = 1 := rfl; omega
  | join u v =>
    by_cases g : u.high ≤ v.high
    · exact .inl ⟨u, v, rfl, g, if_pos g⟩
    · right
      cases u with
      | nil => exact hy.1.elim
      | item a b => have := hy.2.1.high; have e1 : (Tr.item a b).high = 1 := rfl; omega
      | join b c => exact ⟨b, c, v, rfl, by omega, if_neg g⟩

/-- What tjoin gives. -/
structure Joined (x y z : Tr) : Prop where
  bal : z.Bal
  list : z.list = x.list ++ y.list
  lo : max x.high y.high ≤ z.high
  hi : z.high ≤ max x.high y.high + 1
  even : x.high ≤ y.high + 1 → y.high ≤ x.high + 1 → z.high = max x.high y.high + 1
theorem tjoin_is {x y : Tr} (hx : x.Bal) (hy : y.Bal) (h1 : x.high ≤ y.high + 2) (h2 : y.high ≤ x.high + 2) : Joined x y (tjoin x y) := by
  by_cases a : x.high ≤ y.high + 1
  · by_cases b : y.high ≤ x.high + 1
    · rw [tjoin_even hx hy a b]
      exact ⟨⟨hx, hy, a, b⟩, rfl, by show max x.high y.high ≤ 1 + max x.high y.high; omega, by show 1 + max x.high y.high ≤ _; omega, fun _ _ => by show 1 + max x.high y.high = _; omega⟩
    · rcases tjoin_right hx hy (by omega) with ⟨u, v, rfl, g, e⟩ | ⟨b', c, v, rfl, g, e⟩
      · rw [e]
        obtain ⟨u1, v1, g1, g2⟩ := hy
        have hh : (Tr.join u v).high = 1 + max u.high v.high := rfl
        refine ⟨⟨⟨hx, u1, ?_, ?_⟩, v1, ?_, ?_⟩, by simp [Tr.list], ?_, ?_, fun _ _ => by omega⟩ <;> simp only [Tr.high] at * <;> omega
      · rw [e]
        obtain ⟨⟨b1, c1, g3, g4⟩, v1, g1, g2⟩ := hy
        refine ⟨⟨⟨hx, b1, ?_, ?_⟩, ⟨c1, v1, ?_, ?_⟩, ?_, ?_⟩, by simp [Tr.list], ?_, ?_, fun _ _ => by omega⟩ <;> simp only [Tr.high] at * <;> omega
  · rcases tjoin_left hx hy (by omega) with ⟨u, v, rfl, g, e⟩ | ⟨u, b', c, rfl, g, e⟩
    · rw [e]
      obtain ⟨u1, v1, g1, g2⟩ := hx
      refine ⟨⟨u1, ⟨v1, hy, ?_, ?_⟩, ?_, ?_⟩, by simp [Tr.list], ?_, ?_, fun _ _ => by omega⟩ <;> simp only [Tr.high] at * <;> omega
    · rw [e]
      obtain ⟨u1, ⟨b1, c1, g3, g4⟩, g1, g2⟩ := hx
      refine ⟨⟨⟨u1, b1, ?_, ?_⟩, ⟨c1, hy, ?_, ?_⟩, ?_, ?_⟩, by simp [Tr.list], ?_, ?_, fun _ _ => by omega⟩ <;> simp only [Tr.high] at * <;> omega

/-- A list of which one place is another list, or none. -/
def tchange (f : Tr → Tr) : Tr → Nat → Tr
  | .nil, _ => f .nil
  | .item a b, _ => f (.item a b)
  | .join l r, i => if l.len ≤ i then tjoin l (tchange f r (i - l.len)) else tjoin (tchange f l i) r

/-- One more, or the same. -/
theorem tchange_grows {f : Tr → Tr} (hf : ∀ a b, (f (.item a b)).Bal ∧ (f (.item a b)).high ≤ 2) : ∀ (t : Tr) (i : Nat), t.Bal → (tchange f t i).Bal ∧ t.high ≤ (tchange f t i).high ∧ (tchange f t i).high ≤ t.high + 1
  | .nil, _, h => h.elim
  | .item a b, i, _ => ⟨(hf a b).1, (hf a b).1.high, (hf a b).2⟩
  | .join l r, i, h => by
    obtain ⟨hl, hr, g1, g2⟩ := h
    unfold tchange
    by_cases g : l.len ≤ i
    · rw [if_pos g]
      obtain ⟨b1, b2, b3⟩ := tchange_grows hf r (i - l.len) hr
      have j := tjoin_is hl b1 (by omega) (by omega)
      refine ⟨j.bal, ?_, ?_⟩
      · show 1 + max l.high r.high ≤ _
        by_cases e : (tchange f r (i - l.len)).high ≤ l.high + 1
        · have := j.even (by omega) e; omega
        · have := j.lo; omega
      · show _ ≤ 1 + max l.high r.high + 1
        have := j.hi; omega
    · rw [if_neg g]
      obtain ⟨b1, b2, b3⟩ := tchange_grows hf l i hl
      have j := tjoin_is b1 hr (by omega) (by omega)
      refine ⟨j.bal, ?_, ?_⟩
      · show 1 + max l.high r.high ≤ _
        by_cases e : (tchange f l i).high ≤ r.high + 1
        · have := j.even e (by omega); omega
        · have := j.lo; omega
      · show _ ≤ 1 + max l.high r.high + 1
        have := j.hi; omega
/-- One less, or the same. -/
theorem tchange_shrinks {f : Tr → Tr} (hf : ∀ a b, f (.item a b) = .nil ∨ (f (.item a b)).Bal ∧ (f (.item a b)).high = 1) : ∀ (t : Tr) (i : Nat), t.Bal → (tchange f t i).Fine ∧ t.high ≤ (tchange f t i).high + 1 ∧ (tchange f t i).high ≤ t.high
  | .nil, _, h => h.elim
  | .item a b, i, _ => by
    unfold tchange
    rcases hf a b with e | ⟨e, g⟩
    · rw [e]; exact ⟨.inl rfl, Nat.le_refl _, Nat.zero_le _⟩
    · exact ⟨.inr e, by rw [g]; exact Nat.le_add_right _ _, by rw [g]; exact Nat.le_refl _⟩
  | .join l r, i, h => by
    obtain ⟨hl, hr, g1, g2⟩ := h
    have h1 := hl.high
    have h2 := hr.high
    unfold tchange
    by_cases g : l.len ≤ i
    · rw [if_pos g]
      obtain ⟨b1, b2, b3⟩ := tchange_shrinks hf r (i - l.len) hr
      rcases b1 with e | b1
      · rw [e] at b2 b3 ⊢
        rw [tjoin_nil_right]
        have e0 : Tr.nil.high = 0 := rfl
        refine ⟨.inr hl, ?_, ?_⟩
        · show 1 + max l.high r.high ≤ _; omega
        · show _ ≤ 1 + max l.high r.high; omega
      · have j := tjoin_is hl b1 (by omega) (by omega)
        refine ⟨.inr j.bal, ?_, ?_⟩
        · show 1 + max l.high r.high ≤ _
          by_cases e : l.high ≤ (tchange f r (i - l.len)).high + 1
          · have := j.even e (by omega); omega
          · have := j.lo; omega
        · show _ ≤ 1 + max l.high r.high
          have := j.hi; omega
    · rw [if_neg g]
      obtain ⟨b1, b2, b3⟩ := tchange_shrinks hf l i hl
      rcases b1 with e | b1
      · rw [e] at b2 b3 ⊢
        rw [tjoin_nil_left]
        have e0 : Tr.nil.high = 0 := rfl
        refine ⟨.inr hr, ?_, ?_⟩
        · show 1 + max l.high r.high ≤ _; omega
        · show _ ≤ 1 + max l.high r.high; omega
      · have j := tjoin_is b1 hr (by omega) (by omega)
        refine ⟨.inr j.bal, ?_, ?_⟩
        · show 1 + max l.high r.high ≤ _
          by_cases e : r.high ≤ (tchange f l i).high + 1
          · have := j.even (by omega) e; omega
          · have := j.lo; omega
        · show _ ≤ 1 + max l.high r.high
          have := j.hi; omega

/-- The least length of a list that is so high. -/
def fibL : Nat → Nat
  | 0 => 0
  | 1 => 1
  | n + 2 => match n with
    | 0 => 2
    | m + 1 => fibL (m + 2) + fibL (m + 1)
theorem fibL_step (m : Nat) : fibL (m + 3) = fibL (m + 2) + fibL (m + 1) := rfl
theorem fibL_mono : ∀ m, fibL m ≤ fibL (m + 1)
  | 0 => by decide
  | 1 => by decide
  | m + 2 => by rw [fibL_step]; omega
theorem fibL_le {a b : Nat} (h : a ≤ b) : fibL a ≤ fibL b := by
  induction h with
  | refl => exact Nat.le_refl _
  | step _ ih => exact Nat.le_trans ih (fibL_mono _)
theorem Tr.Bal.fib {t : Tr} (h : t.Bal) : fibL t.high ≤ t.len := by
  induction t with
  | nil => exact h.elim
  | item a b => exact Nat.le_refl _
  | join l r il ir =>
    obtain ⟨hl, hr, g1, g2⟩ := h
    have a1 := il hl
    have a2 := ir hr
    have l1 := hl.high
    have r1 := hr.high
    show fibL (1 + max l.high r.high) ≤ l.len + r.len
    by_cases e : 1 + max l.high r.high = 2
    · rw [e]
      have := hl.len
      have := hr.len
      show 2 ≤ _
      omega
    · obtain ⟨m, hm⟩ : ∃ m, 1 + max l.high r.high = m + 3 := ⟨max l.high r.high - 2, by omega⟩
      rw [hm, fibL_step]
      by_cases c : r.high ≤ l.high
      · have e1 : l.high = m + 2 := by omega
        have e2 : fibL (m + 1) ≤ fibL r.high := fibL_le (by omega)
        rw [e1] at a1
        omega
      · have e1 : r.high = m + 2 := by omega
        have e2 : fibL (m + 1) ≤ fibL l.high := fibL_le (by omega)
        rw [e1] at a2
        omega

theorem tjoin_list (x y : Tr) : (tjoin x y).list = x.list ++ y.list := by
  unfold tjoin
  split
  · cases x <;> simp_all [Tr.isNil, Tr.list]
  · split
    · cases y <;> simp_all [Tr.isNil, Tr.list]
    · split
      · unfold rotL
        cases x with
        | nil => rfl
        | item a b => rfl
        | join u v =>
          simp only
          split
          · simp [Tr.list]
          · cases v <;> simp [Tr.list]
      · split
        · unfold rotR
          cases y with
          | nil => rfl
          | item a b => rfl
          | join u v =>
            simp only
            split
            · simp [Tr.list]
            · cases u <;> simp [Tr.list]
        · rfl
/-- The items behind a change: what is put where item i was. -/
theorem tchange_list (f : Tr → Tr) (g : Int × Int → List (Int × Int)) (hf : ∀ a b, (f (.item a b)).list = g (a, b)) : ∀ (t : Tr) (i : Nat), t.Bal → i < t.len →
    (tchange f t i).list = t.list.take i ++ (g (t.list.getD i (0, 0)) ++ t.list.drop (i + 1))
  | .nil, _, h, _ => h.elim
  | .item a b, i, _, hi => by
    have e : i = 0 := by unfold Tr.len at hi; omega
    subst e
    unfold tchange
    rw [hf]
    simp [Tr.list]
  | .join l r, i, h, hi => by
    obtain ⟨hl, hr, _⟩ := h
    have hll := Tr.len_list l
    have hi' : i < l.len + r.len := hi
    unfold tchange
    by_cases c : l.len ≤ i
    · rw [if_pos c, tjoin_list, tchange_list f g hf r (i - l.len) hr (by omega)]
      show _ = (l.list ++ r.list).take i ++ (g ((l.list ++ r.list).getD i (0, 0)) ++ (l.list ++ r.list).drop (i + 1))
      have e1 : (l.list ++ r.list).take i = l.list ++ r.list.take (i - l.len) := by rw [List.take_append, List.take_of_length_le (by omega), hll]
      have e2 : (l.list ++ r.list).drop (i + 1) = r.list.drop (i - l.len + 1) := by rw [List.drop_append, List.drop_of_length_le (by omega), hll, show i + 1 - l.len = i - l.len + 1 by omega]; rfl
      have e3 : (l.list ++ r.list).getD i (0, 0) = r.list.getD (i - l.len) (0, 0) := by rw [List.getD_eq_getElem?_getD, List.getElem?_append_right (by omega), hll, ← List.getD_eq_getElem?_getD]
      rw [e1, e2, e3, List.append_assoc]
    · rw [if_neg c, tjoin_list, tchange_list f g hf l i hl (by omega)]
      show _ = (l.list ++ r.list).take i ++ (g ((l.list ++ r.list).getD i (0, 0)) ++ (l.list ++ r.list).drop (i + 1))
      have e1 : (l.list ++ r.list).take i = l.list.take i := by rw [List.take_append, show i - l.list.length = 0 by omega]; simp
      have e2 : (l.list ++ r.list).drop (i + 1) = l.list.drop (i + 1) ++ r.list := by rw [List.drop_append, show i + 1 - l.list.length = 0 by omega]; simp
      have e3 : (l.list ++ r.list).getD i (0, 0) = l.list.getD i (0, 0) := by rw [List.getD_eq_getElem?_getD, List.getElem?_append_left (by omega), ← List.getD_eq_getElem?_getD]
      rw [e1, e2, e3, List.append_assoc, List.append_assoc]

end Go.Proofs.Ytdipgcbppggdhaa
namespace Go.Proofs.Ytdipgcbppggdhaa
set_option maxRecDepth 100000

/-- Who is used and has no count waits; each kid was there ahead of its parent. -/
structure Led (s : Ar) : Prop where
  wts : ∀ h, s.u h = true → s.c h = 0 → (h : Int) ∈ s.wt
  rank : ∃ ρ : Nat → Nat, ∀ h, s.u h = true → ∀ y, y ∈ (s.nd h).kids → y ≠ 0 → ρ y.toNat < ρ h

theorem led_new (n : Nat) : Led (Ar.new n) := ⟨fun h hu => absurd (show false = true from hu) (by decide), fun _ => 0, fun h hu => absurd (show false = true from hu) (by decide)⟩
theorem led_keep {s : Ar} {B : Int} (h : Led s) (ok : s.Ok B) (i : Int) : Led (s.keep i).1 := by
  unfold Ar.keep
  by_cases h0 : s.count i = 0
  · rw [if_pos h0]; exact h
  · rw [if_neg h0]
    refine ⟨fun j hj hc => ?_, h.rank⟩
    have hc : upd s.c i.toNat (s.c i.toNat + 1) j = 0 := hc
    by_cases e : j = i.toNat
    · subst e
      rw [upd_same] at hc
      have := ok.c i.toNat
      omega
    · rw [upd_ne _ _ e] at hc
      exact h.wts j hj hc
theorem led_drop {s : Ar} (h : Led s) (i : Int) : Led (s.drop i).1 := by
  unfold Ar.drop
  by_cases h0 : s.count i = 0
  · rw [if_pos h0]; exact h
  · rw [if_neg h0]
    obtain ⟨i1, i2, _⟩ := count_pos h0
    refine ⟨fun j hj hc => ?_, h.rank⟩
    have hc : upd s.c i.toNat (s.c i.toNat - 1) j = 0 := hc
    show (j : Int) ∈ if s.c i.toNat - 1 = 0 then s.wt ++ [i] else s.wt
    by_cases e : j = i.toNat
    · subst e
      rw [upd_same] at hc
      rw [if_pos hc, show ((i.toNat : Nat) : Int) = i by omega]
      simp
    · rw [upd_ne _ _ e] at hc
      have := h.wts j hj hc
      split
      · exact List.mem_append_left _ this
      · exact this
theorem led_drops : ∀ (l : List Int) {s : Ar}, Led s → Led (s.drops l)
  | [], _, h => h
  | k :: r, _, h => led_drops r (led_drop h k)
theorem led_pop {s : Ar} {B : Int} (h : Led s) (ok : s.Ok B) {i : Int} {r : List Int} (hw : s.wt = i :: r) : Led (s.pop i r) := by
  obtain ⟨i1, i2, i3, i4⟩ := ok.wt i (by rw [hw]; simp)
  obtain ⟨ρ, hρ⟩ := h.rank
  have ne : ∀ j, (s.pop i r).u j = true → j ≠ i.toNat ∧ s.u j = true := by
    intro j hj
    by_cases e : j = i.toNat
    · subst e
      have : (s.pop i r).u i.toNat = false := upd_same _ _ _
      rw [this] at hj; cases hj
    · have e2 : (s.pop i r).u j = s.u j := upd_ne _ _ e
      rw [e2] at hj
      exact ⟨e, hj⟩
  refine ⟨fun j hj hc => ?_, ρ, fun j hj y hy y0 => ?_⟩
  · obtain ⟨e, hu⟩ := ne j hj
    have := h.wts j hu hc
    rw [hw] at this
    rcases List.mem_cons.1 this with x | x
    · omega
    · exact x
  · obtain ⟨e, hu⟩ := ne j hj
    have e1 : (s.pop i r).nd j = s.nd j := upd_ne _ _ e
    rw [e1] at hy
    exact hρ j hu y hy y0
theorem led_work {B : Int} : ∀ (m : Nat) {s : Ar}, Led s → s.Ok B → Led (s.work m).1
  | 0, _, h, _ => h
  | m + 1, s, h, ok => by
    unfold Ar.work
    split
    · exact h
    · rename_i i r hw
      exact led_work m (led_drops _ (led_pop h ok hw)) (ok_free1 ok hw)
theorem bump_ge {c : Nat → Int} (y : Int) (i : Nat) : c i ≤ bump c y i := by
  unfold bump upd
  by_cases e : y = 0
  · rw [if_pos e]; omega
  · rw [if_neg e]
    show c i ≤ (if i = y.toNat then c y.toNat + 1 else c i)
    split
    · rename_i e; rw [e]; omega
    · omega
theorem bumps_ge : ∀ (l : List Int) (c : Nat → Int) (i : Nat), c i ≤ bumps c l i
  | [], _, _ => Int.le_refl _
  | y :: r, c, i => Int.le_trans (bump_ge y i) (bumps_ge r (bump c y) i)
/-- The ranks of 1 to n are below this. -/
def topN : Nat → (Nat → Nat) → Nat
  | 0, _ => 0
  | n + 1, f => max (topN n f) (f (n + 1) + 1)
theorem topN_lt {n : Nat} {f : Nat → Nat} {h : Nat} (h1 : 1 ≤ h) (h2 : h ≤ n) : f h < topN n f := by
  induction n with
  | zero => omega
  | succ n ih =>
    unfold topN
    by_cases e : h = n + 1
    · subst e; omega
    · have := ih (by omega); omega
theorem led_put {s : Ar} {B : Int} {H : Nat → Nat} (h : Led s) (ok : s.Ok B) (acc : Acc s H) {x : Nd} (hb : x.kids.any s.bad = false) (hf : s.free ≠ 0) : Led (s.put s.free x) := by
  obtain ⟨f1, f2⟩ := free_in hf
  have f3 := free_unused hf
  obtain ⟨ρ, hρ⟩ := h.rank
  have live : ∀ y, y ∈ x.kids → y ≠ 0 → 1 ≤ y ∧ y ≤ s.n ∧ s.u y.toNat = true := by
    intro y hy y0
    have hc : s.count y ≠ 0 := by
      intro e
      rw [List.any_eq_false] at hb
      exact hb y hy (bad_iff.2 ⟨y0, e⟩)
    obtain ⟨a, b, c⟩ := count_pos hc
    refine ⟨a, b, ?_⟩
    cases hu : s.u y.toNat
    · rw [c, ok.fr _ hu] at hc; exact absurd rfl hc
    · rfl
  refine ⟨fun j hj hc => ?_, upd ρ s.free (topN s.n ρ), fun j hj y hy y0 => ?_⟩
  · have hc : upd (bumps s.c x.kids) s.free 1 j = 0 := hc
    by_cases e : j = s.free
    · subst e; rw [upd_same] at hc; cases hc
    · rw [upd_ne _ _ e] at hc
      have e2 : (s.put s.free x).u j = s.u j := upd_ne _ _ e
      rw [e2] at hj
      have := bumps_ge x.kids s.c j
      have := ok.c j
      exact h.wts j hj (by omega)
  · by_cases e : j = s.free
    · subst e
      have hy' : y ∈ x.kids := by
        have : (s.put s.free x).nd s.free = x := upd_same _ _ _
        rwa [this] at hy
      obtain ⟨a, b, c⟩ := live y hy' y0
      rw [upd_same, upd_ne _ _ (by intro e; rw [e, f3] at c; cases c)]
      exact topN_lt (by omega) (by omega)
    · have e1 : (s.put s.free x).nd j = s.nd j := upd_ne _ _ e
      have e2 : (s.put s.free x).u j = s.u j := upd_ne _ _ e
      rw [e1] at hy
      rw [e2] at hj
      have hlt := hρ j hj y hy y0
      have hy1 := acc.kids j hj y hy
      have hj1 := acc.nz j hj
      have hu : s.u y.toNat = true := by
        cases hu : s.u y.toNat
        · exfalso
          have hc := acc.eq y.toNat (by omega) (by omega)
          rw [ok.fr _ hu] at hc
          have h1 : ctr s y.toNat j ≤ refs s y.toNat := sumN_le hj1.1 hj1.2
          have h2 : 1 ≤ ctr s y.toNat j := by
            unfold ctr
            rw [hj, if_pos rfl, show ((y.toNat : Nat) : Int) = y by omega]
            exact List.count_pos_iff.2 hy
          omega
        · rfl
      rw [upd_ne _ _ e, upd_ne _ _ (by intro e; rw [e, f3] at hu; cases hu)]
      exact hlt
theorem led_make {s : Ar} {B : Int} {H : Nat → Nat} (h : Led s) (ok : s.Ok B) (acc : Acc s H) (x : Nd) : Led (s.make x).1 := by
  unfold Ar.make
  split
  · exact h
  · split
    · exact h
    · split
      · exact h
      · rename_i h1 h2 h3
        exact led_put h ok acc (by simpa using h2) h3

theorem usedN_zero {n : Nat} {u : Nat → Bool} (h : ∀ i, 1 ≤ i → i ≤ n → u i = false) : usedN n u = 0 := by
  induction n with
  | zero => rfl
  | succ n ih => rw [usedN_succ, ih fun i h1 h2 => h i h1 (by omega), h (n + 1) (by omega) (Nat.le_refl _)]; rfl
theorem sumN_pos {n : Nat} {f : Nat → Nat} (h : 1 ≤ sumN n f) : ∃ i, 1 ≤ i ∧ i ≤ n ∧ 1 ≤ f i := by
  induction n with
  | zero => simp [sumN] at h
  | succ n ih =>
    unfold sumN at h
    by_cases e : 1 ≤ f (n + 1)
    · exact ⟨n + 1, by omega, by omega, e⟩
    · obtain ⟨i, a, b, c⟩ := ih (by omega)
      exact ⟨i, a, by omega, c⟩
/-- Nobody has anything, and nobody waits: nothing is used. -/
theorem led_empty {s : Ar} {B : Int} {H : Nat → Nat} (h : Led s) (ok : s.Ok B) (acc : Acc s H) (h0 : ∀ k, 1 ≤ k → H k = 0) (hw : s.wt = []) : ∀ i, s.u i = false := by
  obtain ⟨ρ, hρ⟩ := h.rank
  have up : ∀ i, s.u i = true → ∃ j, s.u j = true ∧ ρ i < ρ j := by
    intro i hi
    obtain ⟨i1, i2⟩ := acc.nz i hi
    have hc : s.c i ≠ 0 := fun e => by have := h.wts i hi e; rw [hw] at this; cases this
    have he := acc.eq i i1 i2
    rw [h0 i i1] at he
    have := ok.c i
    obtain ⟨j, j1, j2, j3⟩ := sumN_pos (n := s.n) (f := ctr s i) (by show 1 ≤ refs s i; omega)
    unfold ctr at j3
    cases hj : s.u j
    · rw [hj] at j3; simp at j3
    · rw [hj, if_pos rfl] at j3
      refine ⟨j, hj, ?_⟩
      have := hρ j hj i (List.count_pos_iff.1 j3) (by omega)
      simpa using this
  have no : ∀ d i, s.u i = true → topN s.n ρ ≤ ρ i + d → False := by
    intro d
    induction d with
    | zero =>
      intro i hi hd
      obtain ⟨i1, i2⟩ := acc.nz i hi
      have := topN_lt (f := ρ) i1 i2
      omega
    | succ d ih =>
      intro i hi hd
      obtain ⟨j, hj, hlt⟩ := up i hi
      exact ih j hj (by omega)
  intro i
  cases hi : s.u i
  · rfl
  · exact (no (topN s.n ρ) i hi (by omega)).elim
theorem led_busy {s : Ar} {B : Int} {H : Nat → Nat} (h : Led s) (ok : s.Ok B) (acc : Acc s H) (h0 : ∀ k, 1 ≤ k → H k = 0) (hw : s.wt = []) : s.busy = 0 := by
  rw [ok.busy, usedN_zero fun i _ _ => led_empty h ok acc h0 hw i]
  rfl
end Go.Proofs.Ytdipgcbppggdhaa
namespace Go.Proofs.Ytdipgcbppggdhaa
set_option maxRecDepth 100000

/-- L is what the caller has, each as often as it has it; who has no count waits. -/
structure Gd (s : Ar) (L : List Int) : Prop where
  good : ∃ B, Good s B L
  led : Led s
/-- An arena whose counts are all small. -/
def Snd (s : Ar) : Prop := s.Ok 100000000000

theorem sumN_le_mul {n : Nat} {f : Nat → Nat} {m : Nat} (h : ∀ i, f i ≤ m) : sumN n f ≤ m * n := by
  induction n with
  | zero => simp [sumN]
  | succ n ih => have := h (n + 1); unfold sumN; rw [Nat.mul_add]; omega
theorem refs_le (s : Ar) (k : Nat) : refs s k ≤ 4 * s.n := sumN_le_mul fun i => by
  unfold ctr
  split
  · exact List.count_le_length
  · omega
section
variable {s : Ar} {L : List Int} {B : Int}
theorem Gd.ok (g : Gd s L) : ∃ B, s.Ok B := by obtain ⟨B, h⟩ := g.good; exact ⟨B, h.ok⟩
theorem Gd.acc (g : Gd s L) : Acc s (cnt L) := by obtain ⟨B, h⟩ := g.good; exact h.acc
theorem Gd.n1 (g : Gd s L) : 1 ≤ s.n := by obtain ⟨B, h⟩ := g.ok; exact h.n1
theorem Gd.n2 (g : Gd s L) : s.n ≤ 6000 := by obtain ⟨B, h⟩ := g.ok; exact h.n2
theorem Gd.busy_le (g : Gd s L) : 0 ≤ s.busy ∧ s.busy ≤ s.n := by
  obtain ⟨B, h⟩ := g.ok
  have := h.busy
  have := usedN_le s.n s.u
  omega
/-- The counts are small because what is had, and the nodes, are few. -/
theorem Gd.okb (g : Gd s L) {M : Int} (hL : (L.length : Int) + 24000 ≤ M) (hm : s.made ≤ M) : s.Ok M := by
  obtain ⟨B, h⟩ := g.ok
  refine ⟨h.n1, h.n2, fun i => ⟨(h.c i).1, ?_⟩, h.wt, h.nodup, h.fr, h.busy, ⟨h.m.1, hm⟩⟩
  have hn := h.n2
  cases hu : s.u i
  · rw [h.fr i hu]; omega
  · obtain ⟨i1, i2⟩ := g.acc.nz i hu
    have e := g.acc.eq i i1 i2
    have h1 := refs_le s i
    have h2 : cnt L i ≤ L.length := List.count_le_length
    omega
theorem Gd.snd (g : Gd s L) (hL : L.length ≤ 1000000) (hm : s.made - s.busy ≤ 1000000000) : Snd s := by
  have := g.busy_le
  have := g.n2
  exact g.okb (by omega) (by omega)
theorem Gd.goodb (g : Gd s L) (hL : L.length ≤ 1000000) (hm : s.made - s.busy ≤ 1000000000) : Good s 100000000000 L := ⟨g.snd hL hm, g.acc⟩
theorem Gd.perm {L' : List Int} (g : Gd s L) (e : ∀ k, 1 ≤ k → cnt L' k = cnt L k) : Gd s L' := by
  obtain ⟨⟨B, h⟩, l⟩ := g
  exact ⟨⟨B, h.perm e⟩, l⟩
theorem Gd.perm' {L' : List Int} (g : Gd s L) (e : L'.Perm L) : Gd s L' := g.perm fun _ _ => e.count_eq _
theorem Gd.unzero (g : Gd s (0 :: L)) : Gd s L := g.perm fun k hk => by rw [cnt_cons, if_neg (by omega)]; rfl
theorem Gd.zero (g : Gd s L) : Gd s (0 :: L) := g.perm fun k hk => by rw [cnt_cons, if_neg (by omega)]; rfl
theorem Gd.swap {x y : Int} (g : Gd s (x :: y :: L)) : Gd s (y :: x :: L) := g.perm fun k _ => by simp only [cnt_cons]; omega
theorem Gd.live (g : Gd s L) {h : Int} (h1 : 1 ≤ h) (h2 : h ≤ s.n) (hH : h ∈ L) : s.count h ≠ 0 := by
  obtain ⟨B, k⟩ := g.good
  exact k.live h1 h2 hH
theorem Gd.kid (g : Gd s L) {h k : Int} (h1 : 1 ≤ h) (h2 : h ≤ s.n) (hu : s.u h.toNat = true) (hk : k ∈ (s.nd h.toNat).kids) (k1 : 1 ≤ k) : k ≤ s.n ∧ s.count k ≠ 0 := by
  obtain ⟨B, j⟩ := g.good
  exact j.kid h1 h2 hu hk k1
theorem Gd.pos (g : Gd s L) {h : Int} (h0 : s.count h ≠ 0) : 0 < s.count h := by
  obtain ⟨B, k⟩ := g.ok
  obtain ⟨_, _, e⟩ := count_pos h0
  have := k.c h.toNat
  omega
theorem gd_new {n : Nat} (h1 : 1 ≤ n) (h2 : n ≤ 6000) : Gd (Ar.new n) [] := ⟨⟨0, good_new h1 h2⟩, led_new n⟩
theorem gd_keep (g : Gd s L) {i : Int} (hi : s.count i ≠ 0) : Gd (s.keep i).1 (i :: L) := by
  obtain ⟨⟨B, h⟩, l⟩ := g
  exact ⟨⟨B + 1, (good_keep h hi).2⟩, led_keep l h.ok i⟩
theorem gd_drop {i : Int} (g : Gd s (i :: L)) (i0 : 0 ≤ i) (i2 : i ≤ s.n) : Gd (s.drop i).1 L := by
  obtain ⟨⟨B, h⟩, l⟩ := g
  exact ⟨⟨B, good_drop h i0 i2⟩, led_drop l i⟩
theorem gd_drops : ∀ (l : List Int) {s : Ar}, Gd s (l ++ L) → (∀ y, y ∈ l → 0 ≤ y ∧ y ≤ s.n) → Gd (s.drops l) L
  | [], _, g, _ => g
  | k :: r, s, g, h => gd_drops r (s := (s.drop k).1) (gd_drop g (h k (by simp)).1 (h k (by simp)).2) fun y hy => by rw [drop_n]; exact h y (List.mem_cons_of_mem _ hy)
theorem gd_work (g : Gd s L) (m : Nat) : Gd (s.work m).1 L := by
  obtain ⟨⟨B, h⟩, l⟩ := g
  exact ⟨⟨B, good_work h m⟩, led_work m l h.ok⟩
theorem ext_drops : ∀ (l : List Int) (s : Ar), Ext s (s.drops l)
  | [], s => Ext.refl s
  | k :: r, s => (ext_drop s k).trans (ext_drops r (s.drop k).1)
theorem free_full (g : Gd s L) (h : s.free = 0) : s.busy = s.n := by
  obtain ⟨B, k⟩ := g.ok
  have := g.busy_le
  by_cases e : s.busy < s.n
  · exact absurd h (free_of_room k e)
  · omega
theorem keep_made (s : Ar) (i : Int) : (s.keep i).1.made = s.made := by
  unfold Ar.keep
  split <;> rfl
theorem keep_busy' (s : Ar) (i : Int) : (s.keep i).1.busy = s.busy := by
  unfold Ar.keep
  split <;> rfl
theorem keep_n (s : Ar) (i : Int) : (s.keep i).1.n = s.n := by
  unfold Ar.keep
  split <;> rfl
/-- A node is made, or there is no room. -/
theorem gd_make (g : Gd s L) {x : Nd} (ht : 1 ≤ x.tag ∧ x.tag ≤ 6) (hk : ∀ y, y ∈ x.kids → y = 0 ∨ s.count y ≠ 0) :
    (∃ h : Int, s.make x = (s.put h.toNat x, h, 0) ∧ Gd (s.put h.toNat x) (h :: L) ∧ Ext s (s.put h.toNat x) ∧ 1 ≤ h ∧ h ≤ s.n ∧ (s.put h.toNat x).u h.toNat = true ∧ (s.put h.toNat x).nd h.toNat = x ∧ (s.put h.toNat x).busy = s.busy + 1 ∧ (s.put h.toNat x).made = s.made + 1 ∧ s.u h.toNat = false) ∨
    (s.make x = (s, 0, 2) ∧ s.busy = s.n) := by
  obtain ⟨⟨B, k⟩, l⟩ := g
  have g : Gd s L := ⟨⟨B, k⟩, l⟩
  have hb : x.kids.any s.bad = false := by
    rw [List.any_eq_false]
    intro y hy hb
    obtain ⟨a, b⟩ := bad_iff.1 hb
    rcases hk y hy with e | e
    · exact a e
    · exact e b
  by_cases e : s.free = 0
  · right
    refine ⟨?_, free_full g e⟩
    unfold Ar.make
    rw [if_neg (by omega), if_neg (by rw [hb]; decide), if_pos e]
  · left
    have hr : s.busy < s.n := by
      have h1 := k.ok.busy
      obtain ⟨f1, f2⟩ := free_in e
      have h3 := usedN_set (n := s.n) (u := s.u) f1 f2 (free_unused e)
      have h4 := usedN_le s.n (upd s.u s.free true)
      omega
    obtain ⟨h, e1, e2, e3, e4, e5, e6, e7, e8⟩ := good_make k ht hk hr
    have eh : s.free = h := by
      have e9 : s.make x = (s.put s.free x, (s.free : Int), 0) := by
        unfold Ar.make
        rw [if_neg (by omega), if_neg (by rw [hb]; decide), if_neg e]
      rw [e9] at e1
      have := congrArg (fun z => z.2.1) e1
      have : (s.free : Int) = (h : Int) := this
      omega
    refine ⟨(h : Int), ?_, ?_, ?_, by omega, by omega, ?_, ?_, ?_, ?_, ?_⟩ <;> rw [Int.toNat_natCast]
    · exact e1
    · refine ⟨⟨_, e2⟩, ?_⟩
      have := led_put l k.ok k.acc hb e
      rwa [eh] at this
    · exact e3
    · exact e6
    · exact e7
    · exact e8
    · rfl
    · rw [← eh]; exact free_unused e
end
/-- A node is made of kids that are handed over; behind an error they are dropped alone. -/
def nodeF (s : Ar) (e : Int) (x : Nd) : Ar × Int × Int :=
  if e = 0 then ((s.make x).1.drops x.kids, (s.make x).2.2, (s.make x).2.1) else (s.drops x.kids, e, 0)
/-- No error; or there was no room. -/
def EOk (s : Ar) (e : Int) : Prop := e = 0 ∨ (e = 2 ∧ s.busy = s.n)
theorem EOk.same {s s' : Ar} {e : Int} (h : EOk s e) (hb : s'.busy = s.busy) (hn : s'.n = s.n) : EOk s' e := h.imp id fun ⟨a, b⟩ => ⟨a, by omega⟩
/-- What becomes of the arena. -/
structure Went (s s' : Ar) (m : Nat) : Prop where
  ext : Ext s s'
  made : ∃ k : Nat, k ≤ m ∧ s'.made = s.made + k ∧ s'.busy = s.busy + k
theorem Went.refl (s : Ar) : Went s s 0 := ⟨Ext.refl s, 0, Nat.le_refl _, by omega, by omega⟩
theorem Went.trans {a b c : Ar} {m n : Nat} (h : Went a b m) (k : Went b c n) : Went a c (m + n) := by
  obtain ⟨i, i1, i2, i3⟩ := h.made
  obtain ⟨j, j1, j2, j3⟩ := k.made
  exact ⟨h.ext.trans k.ext, i + j, by omega, by omega, by omega⟩
theorem Went.mono {a b : Ar} {m n : Nat} (h : Went a b m) (e : m ≤ n) : Went a b n := by
  obtain ⟨i, i1, i2, i3⟩ := h.made
  exact ⟨h.ext, i, by omega, i2, i3⟩
theorem Went.md {a b : Ar} {m : Nat} (h : Went a b m) : b.made - b.busy = a.made - a.busy := by
  obtain ⟨i, i1, i2, i3⟩ := h.made
  omega
theorem went_keep (s : Ar) (i : Int) : Went s (s.keep i).1 0 := ⟨ext_keep s i, 0, Nat.le_refl _, by rw [keep_made]; omega, by rw [keep_busy']; omega⟩
theorem went_drop (s : Ar) (i : Int) : Went s (s.drop i).1 0 := ⟨ext_drop s i, 0, Nat.le_refl _, by rw [drop_made]; omega, by rw [drop_busy]; omega⟩
theorem went_drops (l : List Int) (s : Ar) : Went s (s.drops l) 0 := ⟨ext_drops l s, 0, Nat.le_refl _, by rw [drops_made]; omega, by rw [drops_busy]; omega⟩
/-- What a node that is made of kids that are handed over comes to. -/
theorem node_ex {s : Ar} {e : Int} {L : List Int} {x : Nd} (g : Gd s (x.kids ++ L)) (he : EOk s e) (ht : 1 ≤ x.tag ∧ x.tag ≤ 6) (hk : ∀ y, y ∈ x.kids → y = 0 ∨ (1 ≤ y ∧ y ≤ s.n)) :
    ∃ s' e' r, nodeF s e x = (s', e', r) ∧ Went s s' 1 ∧ EOk s' e' ∧ Gd s' (r :: L) ∧ (e' ≠ 0 → r = 0) ∧ (e ≠ 0 → e' ≠ 0) ∧ (e' = 0 → 1 ≤ r ∧ r ≤ s'.n ∧ s'.u r.toNat = true ∧ s'.nd r.toNat = x ∧ s.u r.toNat = false) := by
  have hr : ∀ y, y ∈ x.kids → 0 ≤ y ∧ y ≤ s.n := fun y hy => by rcases hk y hy with h | h <;> omega
  unfold nodeF
  rcases he with rfl | ⟨rfl, hb⟩
  · rw [if_pos rfl]
    rcases gd_make g ht (fun y hy => by
      rcases hk y hy with h | h
      · exact .inl h
      · exact .inr (g.live h.1 h.2 (List.mem_append_left _ hy))) with ⟨h, e1, g1, x1, h1, h2, u1, n1, b1, m1, f1⟩ | ⟨e1, hb⟩
    · rw [e1]
      have g2 := gd_drops (L := h :: L) x.kids (s := s.put h.toNat x) (g1.perm' (List.perm_middle)) fun y hy => by rw [x1.n]; exact hr y hy
      have x2 := ext_drops x.kids (s.put h.toNat x)
      refine ⟨_, _, _, rfl, ⟨x1.trans x2, 1, Nat.le_refl _, by rw [drops_made, m1]; omega, by rw [drops_busy, b1]; omega⟩, .inl rfl, g2, fun a => absurd rfl a, fun a => absurd rfl a, fun _ => ⟨h1, ?_, ?_, ?_, f1⟩⟩
      · show h ≤ ((s.put h.toNat x).drops x.kids).n
        rw [drops_n, x1.n]; exact h2
      · show ((s.put h.toNat x).drops x.kids).u h.toNat = true
        rw [drops_u]; exact u1
      · show ((s.put h.toNat x).drops x.kids).nd h.toNat = x
        rw [drops_nd]; exact n1
    · rw [e1]
      have g2 := gd_drops x.kids g hr
      refine ⟨_, _, _, rfl, (went_drops x.kids s).mono (by omega), .inr ⟨rfl, ?_⟩, g2.zero, fun _ => rfl, fun a => absurd rfl a, fun a => by cases a⟩
      show (s.drops x.kids).busy = (s.drops x.kids).n
      rw [drops_busy, drops_n]; exact hb
  · rw [if_neg (by decide)]
    have g2 := gd_drops x.kids g hr
    refine ⟨_, _, _, rfl, (went_drops x.kids s).mono (by omega), .inr ⟨rfl, ?_⟩, g2.zero, fun _ => rfl, fun a => by decide, fun a => by cases a⟩
    rw [drops_busy, drops_n]; exact hb
end Go.Proofs.Ytdipgcbppggdhaa
namespace Go.Proofs.Ytdipgcbppggdhaa
set_option maxRecDepth 100000

def bN : List Bool → Nat
  | [] => 0
  | b :: r => b.toNat + 2 * bN r

theorem bN_lt : ∀ l : List Bool, bN l < 2 ^ l.length
  | [] => by simp [bN]
  | b :: r => by
    have := bN_lt r
    have hb : b.toNat ≤ 1 := Bool.toNat_le b
    simp only [bN, List.length_cons, Nat.pow_succ]
    omega
theorem bN_append : ∀ a b : List Bool, bN (a ++ b) = bN a + 2 ^ a.length * bN b
  | [], b => by simp [bN]
  | x :: r, b => by
    have := bN_append r b
    simp only [bN, List.cons_append, List.length_cons, Nat.pow_succ, this]
    rw [Nat.mul_add, Nat.mul_comm (2 ^ r.length) 2, Nat.mul_assoc]
    omega
theorem bN_lt64 {l : List Bool} (h : l.length ≤ 64) : bN l < 18446744073709551616 :=
  Nat.lt_of_lt_of_le (bN_lt l) (Nat.pow_le_pow_right (n := 2) (by decide) h)
theorem bN_take (l : List Bool) (i : Nat) : bN l % 2 ^ i = bN (l.take i) := by
  by_cases h : i ≤ l.length
  · have e := bN_append (l.take i) (l.drop i)
    rw [List.take_append_drop] at e
    have hl : (l.take i).length = i := by rw [List.length_take]; omega
    have hlt := bN_lt (l.take i)
    rw [hl] at e hlt
    rw [e, Nat.add_mul_mod_self_left, Nat.mod_eq_of_lt hlt]
  · rw [List.take_of_length_le (by omega), Nat.mod_eq_of_lt (Nat.lt_of_lt_of_le (bN_lt l) (Nat.pow_le_pow_right (by decide) (by omega)))]
theorem bN_drop (l : List Bool) (i : Nat) : bN l / 2 ^ i = bN (l.drop i) := by
  by_cases h : i ≤ l.length
  · have e := bN_append (l.take i) (l.drop i)
    rw [List.take_append_drop] at e
    have hl : (l.take i).length = i := by rw [List.length_take]; omega
    have hlt := bN_lt (l.take i)
    rw [hl] at e hlt
    rw [e, Nat.add_mul_div_left _ _ (Nat.two_pow_pos i), Nat.div_eq_of_lt hlt, Nat.zero_add]
  · rw [List.drop_eq_nil_of_le (by omega), Nat.div_eq_of_lt (Nat.lt_of_lt_of_le (bN_lt l) (Nat.pow_le_pow_right (by decide) (by omega)))]
    rfl
theorem bN_head (l : List Bool) : bN l % 2 = (l.getD 0 false).toNat := by
  cases l with
  | nil => rfl
  | cons b r =>
    have hb : b.toNat ≤ 1 := Bool.toNat_le b
    show (b.toNat + 2 * bN r) % 2 = b.toNat
    omega
theorem bN_get (l : List Bool) (i : Nat) : bN l / 2 ^ i % 2 = (l.getD i false).toNat := by
  rw [bN_drop, bN_head]
  congr 1
  simp [List.getD]

section
variable {l a b : List Bool} {i n : Nat}
theorem cast_pow (i : Nat) : ((2 ^ i : Nat) : Int) = (2 : Int) ^ i := by simp
theorem bits_take (h : l.length ≤ 64) (hi : i ≤ 64) : bits .and .u64 (bN l : Int) ((2 : Int) ^ i - 1) = (bN (l.take i) : Int) := by
  rw [bits_mask .u64 64 (by decide) wraps_u64 i hi _ (by omega) (by have := bN_lt64 h; omega), ← cast_pow, ← bN_take]
  rfl
theorem bits_drop : (bN l : Int) / (2 : Int) ^ i = (bN (l.drop i) : Int) := by
  rw [← cast_pow, ← bN_drop]
  rfl
theorem bits_over (h : l.length ≤ 64) : bits .andNot .u64 (bN l : Int) ((2 : Int) ^ l.length - 1) = 0 := by
  have hlt := bN_lt l
  have hp : 0 < 2 ^ l.length := Nat.two_pow_pos _
  have hc : ((2 : Int) ^ l.length - 1) = ((2 ^ l.length - 1 : Nat) : Int) := by
    rw [Int.natCast_sub hp]; simp
  have h64 : 2 ^ l.length ≤ 2 ^ 64 := Nat.pow_le_pow_right (by decide) h
  have : (BitVec.ofInt 64 (bN l : Int) &&& ~~~ BitVec.ofInt 64 ((2 ^ l.length - 1 : Nat) : Int)) = 0 := by
    apply BitVec.eq_of_getLsbD_eq
    intro j hj
    rw [BitVec.getLsbD_and, BitVec.getLsbD_not]
    have e1 : (BitVec.ofInt 64 (bN l : Int)).getLsbD j = (bN l).testBit j := by
      rw [BitVec.ofInt_natCast, BitVec.getLsbD_ofNat]
      simp [hj]
    have e2 : (BitVec.ofInt 64 ((2 ^ l.length - 1 : Nat) : Int)).getLsbD j = decide (j < l.length) := by
      rw [BitVec.ofInt_natCast, BitVec.getLsbD_ofNat, Nat.testBit_two_pow_sub_one]
      simp [hj]
    rw [e1, e2]
    by_cases hjl : j < l.length
    · simp [hjl]
    · have : (bN l).testBit j = false := Nat.testBit_lt_two_pow (Nat.lt_of_lt_of_le hlt (Nat.pow_le_pow_right (by decide) (by omega)))
      simp [this]
  rw [hc]
  show IntKind.u64.wrap ((BitVec.ofInt 64 (bN l : Int) &&& ~~~ BitVec.ofInt 64 ((2 ^ l.length - 1 : Nat) : Int)).toNat : Int) = 0
  rw [this]
  rfl
theorem shl_lt (h : a.length + b.length ≤ 64) : 2 ^ a.length * bN b < 18446744073709551616 := by
  have h1 := bN_lt b
  have h2 : 2 ^ a.length * bN b < 2 ^ a.length * 2 ^ b.length := Nat.mul_lt_mul_of_pos_left h1 (Nat.two_pow_pos _)
  rw [← Nat.pow_add] at h2
  exact Nat.lt_of_lt_of_le h2 (Nat.pow_le_pow_right (n := 2) (by decide) h)
theorem bits_join_list (h : a.length + b.length ≤ 64) : bits .or .u64 (bN a : Int) (IntKind.u64.wrap ((bN b : Int) * (2 : Int) ^ a.length)) = (bN (a ++ b) : Int) := by
  have hlt := shl_lt h
  have e : (bN b : Int) * (2 : Int) ^ a.length = ((2 ^ a.length * bN b : Nat) : Int) := by
    rw [Int.natCast_mul, cast_pow, Int.mul_comm]
  rw [e, wraps_u64 _ (by omega) (by omega), (bits_nat .u64 64 (by decide) wraps_u64 (bN a) _ (by have := bN_lt64 (l := a) (by omega); omega) (by omega)).2, bN_append]
  congr 1
  rw [Nat.or_comm, ← Nat.two_pow_add_eq_or_of_lt (bN_lt a), Nat.add_comm]
theorem bits_set (h : a.length < 64) : bits .or .u64 (bN a : Int) (IntKind.u64.wrap ((1 : Int) * (2 : Int) ^ a.length)) = (bN (a ++ [true]) : Int) := by
  have := bits_join_list (a := a) (b := [true]) (by simp; omega)
  exact this
theorem bN_zero : bN (a ++ [false]) = bN a := by
  rw [bN_append]
  rfl
theorem bits_get (h : l.length ≤ 64) : bits .and .u64 ((bN l : Int) / (2 : Int) ^ i) 1 = ((l.getD i false).toNat : Int) := by
  have hd := bN_drop l i
  have hlt := bN_lt64 (l := l.drop i) (by rw [List.length_drop]; omega)
  rw [bits_drop]
  have := bits_mask .u64 64 (by decide) wraps_u64 1 (by decide) (bN (l.drop i) : Int) (by omega) (by omega)
  rw [show (2 : Int) ^ 1 - 1 = 1 by rfl] at this
  rw [this, ← bN_get l i, hd]
  rfl
end
end Go.Proofs.Ytdipgcbppggdhaa
namespace Go.Proofs.Ytdipgcbppggdhaa
set_option maxRecDepth 100000

inductive BT where
  | nil
  | leaf (l : List Bool)
  | fork (a b : BT)

def BT.list : BT → List Bool
  | .nil => []
  | .leaf l => l
  | .fork a b => a.list ++ b.list
def BT.len : BT → Nat
  | .nil => 0
  | .leaf l => l.length
  | .fork a b => a.len + b.len
def BT.ones : BT → Nat
  | .nil => 0
  | .leaf l => l.count true
  | .fork a b => a.ones + b.ones
def BT.high : BT → Nat
  | .nil => 0
  | .leaf _ => 1
  | .fork a b => 1 + max a.high b.high
def BT.isNil : BT → Bool
  | .nil => true
  | _ => false
/-- Balanced, of leaves that are not too few bits. -/
def BT.Full : BT → Prop
  | .nil => False
  | .leaf l => 16 ≤ l.length ∧ l.length ≤ 64
  | .fork a b => a.Full ∧ b.Full ∧ a.high ≤ b.high + 1 ∧ b.high ≤ a.high + 1
/-- A row: nothing, or one leaf, or a full tree. -/
def BT.Fine (t : BT) : Prop := t = .nil ∨ (∃ l, t = .leaf l ∧ 1 ≤ l.length ∧ l.length ≤ 64) ∨ t.Full
/-- Full, or a leaf of too few bits. -/
def BT.Near (t : BT) : Prop := t.Full ∨ ∃ l, t = .leaf l ∧ 1 ≤ l.length ∧ l.length < 16

theorem BT.len_list : ∀ t : BT, t.list.length = t.len
  | .nil => rfl
  | .leaf _ => rfl
  | .fork l r => by simp [BT.list, BT.len, BT.len_list l, BT.len_list r]
theorem BT.ones_list : ∀ t : BT, t.list.count true = t.ones
  | .nil => rfl
  | .leaf _ => rfl
  | .fork l r => by simp [BT.list, BT.ones, BT.ones_list l, BT.ones_list r]
theorem BT.ones_le (t : BT) : t.ones ≤ t.len := by rw [← t.ones_list, ← t.len_list]; exact List.count_le_length
theorem BT.Full.high {t : BT} (h : t.Full) : 1 ≤ t.high := by
  cases t with
  | nil => exact h.elim
  | leaf l => exact Nat.le_refl _
  | fork l r => unfold BT.high; omega
theorem BT.Full.some {t : BT} (h : t.Full) : t.isNil = false := by
  cases t with
  | nil => exact h.elim
  | leaf l => rfl
  | fork l r => rfl
theorem BT.Full.len {t : BT} (h : t.Full) : 16 ≤ t.len := by
  induction t with
  | nil => exact h.elim
  | leaf l => exact h.1
  | fork l r il ir => have := il h.1; unfold BT.len; omega
theorem BT.Fine.len {t : BT} (h : t.Fine) : t.isNil = false → 1 ≤ t.len := by
  intro e
  rcases h with rfl | ⟨l, rfl, a, _⟩ | h
  · cases e
  · exact a
  · have := h.len; omega
theorem BT.Fine.nil_iff {t : BT} (h : t.Fine) : t.isNil = true ↔ t.len = 0 := by
  constructor
  · intro e; cases t <;> first | rfl | cases e
  · intro e
    cases hn : t.isNil
    · have := h.len hn; omega
    · rfl
theorem BT.isNil_eq {t : BT} (h : t.isNil = true) : t = .nil := by cases t <;> first | rfl | cases h

def brotL (x y : BT) : BT :=
  match x with
  | .fork u v => if v.high ≤ u.high then .fork u (.fork v y) else
    match v with
    | .fork b c => .fork (.fork u b) (.fork c y)
    | _ => .fork x y
  | _ => .fork x y
def brotR (x y : BT) : BT :=
  match y with
  | .fork u v => if u.high ≤ v.high then .fork (.fork x u) v else
    match u with
    | .fork b c => .fork (.fork x b) (.fork c v)
    | _ => .fork x y
  | _ => .fork x y
/-- Two rows that differ by two at most, in balance again. -/
def bfork (x y : BT) : BT :=
  if y.high + 1 < x.high then brotL x y
  else if x.high + 1 < y.high then brotR x y
  else .fork x y

theorem bfork_even {x y : BT} (h1 : x.high ≤ y.high + 1) (h2 : y.high ≤ x.high + 1) : bfork x y = .fork x y := by
  unfold bfork
  rw [if_neg (by omega), if_neg (by omega)]
theorem bfork_left {x y : BT} (hx : x.Full) (hy : y.Full) (h : x.high = y.high + 2) :
    (∃ u v, x = .fork u v ∧ v.high ≤ u.high ∧ bfork x y = .fork u (.fork v y)) ∨ (∃ u b c, x = .fork u (.fork b c) ∧ u.high < (BT.fork b c).high ∧ bfork x y = .fork (.fork u b) (.fork c y)) := by
  have hy1 := hy.high
  have e : bfork x y = brotL x y := by
    unfold bfork
    rw [if_pos (by omega)]
  rw [e]
  cases x with
  | nil => exact hx.elim
  | leaf l => have e1 : (BT.leaf l).high = 1 := rfl; omega
  | fork u v =>
    by_cases g : v.high ≤ u.high
    · exact .inl ⟨u, v, rfl, g, if_pos g⟩
    · right
      cases v with
      | nil => exact hx.2.1.elim
      | leaf l => have := hx.1.high; have e1 : (BT.leaf l).high = 1 := rfl; omega
      | fork b c => exact ⟨u, b, c, rfl, by omega, if_neg g⟩
theorem bfork_right {x y : BT} (hx : x.Full) (hy : y.Full) (h : y.high = x.high + 2) :
    (∃ u v, y = .fork u v ∧ u.high ≤ v.high ∧ bfork x y = .fork (.fork x u) v) ∨ (∃ b c v, y = .fork (.fork b c) v ∧ v.high < (BT.fork b c).high ∧ bfork x y = .fork (.fork x b) (.fork c v)) := by
  have hx1 := hx.high
  have e : bfork x y = brotR x y := by
    unfold bfork
    rw [if_neg (by omega), if_pos (by omega)]
  rw [e]
  cases y with
  | nil => exact hy.elim
  | leaf l => have e1 : (BT.leaf l).high = 1 := rfl; omega
  | fork u v =>
    by_cases g : u.high ≤ v.high
    · exact .inl ⟨u, v, rfl, g, if_pos g⟩
    · right
      cases u with
      | nil => exact hy.1.elim
      | leaf l => have := hy.2.1.high; have e1 : (BT.leaf l).high = 1 := rfl; omega
      | fork b c => exact ⟨b, c, v, rfl, by omega, if_neg g⟩
/-- What bfork gives. -/
structure BJoined (x y z : BT) : Prop where
  full : z.Full
  list : z.list = x.list ++ y.list
  lo : max x.high y.high ≤ z.high
  hi : z.high ≤ max x.high y.high + 1
  even : x.high ≤ y.high + 1 → y.high ≤ x.high + 1 → z.high = max x.high y.high + 1
theorem bfork_is {x y : BT} (hx : x.Full) (hy : y.Full) (h1 : x.high ≤ y.high + 2) (h2 : y.high ≤ x.high + 2) : BJoined x y (bfork x y) := by
  by_cases a : x.high ≤ y.high + 1
  · by_cases b : y.high ≤ x.high + 1
    · rw [bfork_even a b]
      exact ⟨⟨hx, hy, a, b⟩, rfl, by show max x.high y.high ≤ 1 + max x.high y.high; omega, by show 1 + max x.high y.high ≤ _; omega, fun _ _ => by show 1 + max x.high y.high = _; omega⟩
    · rcases bfork_right hx hy (by omega) with ⟨u, v, rfl, g, e⟩ | ⟨b', c, v, rfl, g, e⟩
      · rw [e]
        obtain ⟨u1, v1, g1, g2⟩ := hy
        refine ⟨⟨⟨hx, u1, ?_, ?_⟩, v1, ?_, ?_⟩, by simp [BT.list], ?_, ?_, fun _ _ => by omega⟩ <;> simp only [BT.high] at * <;> omega
      · rw [e]
        obtain ⟨⟨b1, c1, g3, g4⟩, v1, g1, g2⟩ := hy
        refine ⟨⟨⟨hx, b1, ?_, ?_⟩, ⟨c1, v1, ?_, ?_⟩, ?_, ?_⟩, by simp [BT.list], ?_, ?_, fun _ _ => by omega⟩ <;> simp only [BT.high] at * <;> omega
  · rcases bfork_left hx hy (by omega) with ⟨u, v, rfl, g, e⟩ | ⟨u, b', c, rfl, g, e⟩
    · rw [e]
      obtain ⟨u1, v1, g1, g2⟩ := hx
      refine ⟨⟨u1, ⟨v1, hy, ?_, ?_⟩, ?_, ?_⟩, by simp [BT.list], ?_, ?_, fun _ _ => by omega⟩ <;> simp only [BT.high] at * <;> omega
    · rw [e]
      obtain ⟨u1, ⟨b1, c1, g3, g4⟩, g1, g2⟩ := hx
      refine ⟨⟨⟨u1, b1, ?_, ?_⟩, ⟨c1, hy, ?_, ?_⟩, ?_, ?_⟩, by simp [BT.list], ?_, ?_, fun _ _ => by omega⟩ <;> simp only [BT.high] at * <;> omega

def bIns (l : List Bool) (i : Nat) (b : Bool) : List Bool := l.take i ++ b :: l.drop i
def bDel (l : List Bool) (i : Nat) : List Bool := l.take i ++ l.drop (i + 1)
theorem bIns_len {l : List Bool} {i : Nat} {b : Bool} (h : i ≤ l.length) : (bIns l i b).length = l.length + 1 := by
  unfold bIns
  rw [List.length_append, List.length_cons, List.length_take, List.length_drop]
  omega
theorem bDel_len {l : List Bool} {i : Nat} (h : i < l.length) : (bDel l i).length + 1 = l.length := by
  unfold bDel
  rw [List.length_append, List.length_take, List.length_drop]
  omega
theorem bIns_right {a c : List Bool} {i : Nat} {b : Bool} (h : a.length ≤ i) : bIns (a ++ c) i b = a ++ bIns c (i - a.length) b := by
  unfold bIns
  rw [List.take_append, List.drop_append, List.take_of_length_le h, List.drop_eq_nil_of_le h, List.append_assoc, List.nil_append]
theorem bIns_left {a c : List Bool} {i : Nat} {b : Bool} (h : i ≤ a.length) : bIns (a ++ c) i b = bIns a i b ++ c := by
  unfold bIns
  rw [List.take_append_of_le_length h, List.drop_append_of_le_length h, List.append_assoc, List.cons_append]
theorem bDel_right {a c : List Bool} {i : Nat} (h : a.length ≤ i) : bDel (a ++ c) i = a ++ bDel c (i - a.length) := by
  unfold bDel
  rw [List.take_append, List.drop_append, List.take_of_length_le h, List.drop_eq_nil_of_le (by omega), List.append_assoc, List.nil_append, show i + 1 - a.length = i - a.length + 1 by omega]
theorem bDel_left {a c : List Bool} {i : Nat} (h : i < a.length) : bDel (a ++ c) i = bDel a i ++ c := by
  unfold bDel
  rw [List.take_append_of_le_length (by omega), List.drop_append_of_le_length (by omega), List.append_assoc]

def binsert : BT → Nat → Bool → BT
  | .nil, _, b => .leaf [b]
  | .leaf l, i, b => if l.length < 64 then .leaf (bIns l i b) else if i ≤ 32 then .fork (.leaf (bIns (l.take 32) i b)) (.leaf (l.drop 32)) else .fork (.leaf (l.take 32)) (.leaf (bIns (l.drop 32) (i - 32) b))
  | .fork x y, i, b => if x.len < i then bfork x (binsert y (i - x.len) b) else bfork (binsert x i b) y
/-- What binsert gives of a full tree. -/
theorem binsert_full : ∀ (t : BT) (i : Nat) (b : Bool), t.Full → i ≤ t.len → (binsert t i b).Full ∧ (binsert t i b).list = bIns t.list i b ∧ t.high ≤ (binsert t i b).high ∧ (binsert t i b).high ≤ t.high + 1
  | .nil, _, _, h, _ => h.elim
  | .leaf l, i, b, h, hi => by
    obtain ⟨h1, h2⟩ := h
    have hi : i ≤ l.length := hi
    unfold binsert
    by_cases e : l.length < 64
    · rw [if_pos e]
      have := bIns_len (b := b) hi
      exact ⟨⟨by omega, by omega⟩, rfl, Nat.le_refl _, by show 1 ≤ 2; omega⟩
    · rw [if_neg e]
      have t1 : (l.take 32).length = 32 := by rw [List.length_take]; omega
      have t2 : (l.drop 32).length = 32 := by rw [List.length_drop]; omega
      by_cases g : i ≤ 32
      · rw [if_pos g]
        have := bIns_len (l := l.take 32) (i := i) (b := b) (by omega)
        refine ⟨⟨⟨by omega, by omega⟩, ⟨by omega, by omega⟩, by show 1 ≤ 2; omega, by show 1 ≤ 2; omega⟩, ?_, by show 1 ≤ 2; omega, by show 2 ≤ 2; omega⟩
        show bIns (l.take 32) i b ++ l.drop 32 = bIns l i b
        rw [← bIns_left (by omega), List.take_append_drop]
      · rw [if_neg g]
        have := bIns_len (l := l.drop 32) (i := i - 32) (b := b) (by omega)
        refine ⟨⟨⟨by omega, by omega⟩, ⟨by omega, by omega⟩, by show 1 ≤ 2; omega, by show 1 ≤ 2; omega⟩, ?_, by show 1 ≤ 2; omega, by show 2 ≤ 2; omega⟩
        show l.take 32 ++ bIns (l.drop 32) (i - 32) b = bIns l i b
        have e := bIns_right (a := l.take 32) (c := l.drop 32) (i := i) (b := b) (by omega)
        rw [List.take_append_drop, t1] at e
        exact e.symm
  | .fork x y, i, b, h, hi => by
    obtain ⟨hx, hy, g1, g2⟩ := h
    have hi : i ≤ x.len + y.len := hi
    have hh : (BT.fork x y).high = 1 + max x.high y.high := rfl
    unfold binsert
    rw [hh]
    by_cases g : x.len < i
    · rw [if_pos g]
      obtain ⟨b1, b2, b3, b4⟩ := binsert_full y (i - x.len) b hy (by omega)
      obtain ⟨c1, c2, c3, c4, c5⟩ := bfork_is hx b1 (by omega) (by omega)
      refine ⟨c1, ?_, ?_, ?_⟩
      · rw [c2, b2]
        show _ = bIns (x.list ++ y.list) i b
        rw [bIns_right (by rw [x.len_list]; omega), x.len_list]
      · by_cases e : (binsert y (i - x.len) b).high ≤ x.high + 1
        · have := c5 (by omega) e; omega
        · omega
      · by_cases e : (binsert y (i - x.len) b).high ≤ x.high + 1
        · have := c5 (by omega) e; omega
        · omega
    · rw [if_neg g]
      obtain ⟨b1, b2, b3, b4⟩ := binsert_full x i b hx (by omega)
      obtain ⟨c1, c2, c3, c4, c5⟩ := bfork_is b1 hy (by omega) (by omega)
      refine ⟨c1, ?_, ?_, ?_⟩
      · rw [c2, b2]
        show _ = bIns (x.list ++ y.list) i b
        rw [bIns_left (by rw [x.len_list]; omega)]
      · by_cases e : (binsert x i b).high ≤ y.high + 1
        · have := c5 e (by omega); omega
        · omega
      · by_cases e : (binsert x i b).high ≤ y.high + 1
        · have := c5 e (by omega); omega
        · omega
theorem binsert_fine {t : BT} (h : t.Fine) {i : Nat} (hi : i ≤ t.len) (b : Bool) : (binsert t i b).Fine ∧ (binsert t i b).list = bIns t.list i b ∧ (binsert t i b).isNil = false := by
  rcases h with rfl | ⟨l, rfl, h1, h2⟩ | h
  · have : i = 0 := by have : i ≤ 0 := hi; omega
    subst this
    exact ⟨.inr (.inl ⟨[b], rfl, by simp, by simp⟩), rfl, rfl⟩
  · by_cases e : 16 ≤ l.length
    · obtain ⟨a, b, _⟩ := binsert_full (.leaf l) i b ⟨e, h2⟩ hi
      exact ⟨.inr (.inr a), b, a.some⟩
    · have hi : i ≤ l.length := hi
      have e' : l.length < 64 := by omega
      have := bIns_len (b := b) hi
      unfold binsert
      rw [if_pos e']
      exact ⟨.inr (.inl ⟨_, rfl, by omega, by omega⟩), rfl, rfl⟩
  · obtain ⟨a, b, _⟩ := binsert_full t i b h hi
    exact ⟨.inr (.inr a), b, a.some⟩

def bhalves (a b : List Bool) : BT := if a.length + b.length ≤ 64 then .leaf (a ++ b) else .fork (.leaf ((a ++ b).take ((a.length + b.length + 1) / 2))) (.leaf ((a ++ b).drop ((a.length + b.length + 1) / 2)))
theorem bhalves_is {a b : List Bool} (h : 16 ≤ a.length + b.length) (h' : a.length + b.length ≤ 128) : (bhalves a b).Full ∧ (bhalves a b).list = a ++ b ∧ (bhalves a b).high ≤ 2 := by
  unfold bhalves
  by_cases e : a.length + b.length ≤ 64
  · rw [if_pos e]
    exact ⟨⟨by simp; omega, by simp; omega⟩, rfl, by show 1 ≤ 2; omega⟩
  · rw [if_neg e]
    refine ⟨⟨⟨?_, ?_⟩, ⟨?_, ?_⟩, by show 1 ≤ 2; omega, by show 1 ≤ 2; omega⟩, List.take_append_drop _ _, Nat.le_refl _⟩ <;> simp only [List.length_take, List.length_drop, List.length_append] <;> omega
def bpour : BT → List Bool → Bool → BT
  | .nil, s, _ => .leaf s
  | .leaf l, s, ahead => if ahead = true then bhalves s l else bhalves l s
  | .fork x y, s, ahead => if ahead = true then bfork (bpour x s ahead) y else bfork x (bpour y s ahead)
def bAdd (l s : List Bool) (ahead : Bool) : List Bool := if ahead = true then s ++ l else l ++ s
theorem bpour_is : ∀ (t : BT) (s : List Bool) (ahead : Bool), t.Full → s.length < 16 → (bpour t s ahead).Full ∧ (bpour t s ahead).list = bAdd t.list s ahead ∧ t.high ≤ (bpour t s ahead).high ∧ (bpour t s ahead).high ≤ t.high + 1
  | .nil, _, _, h, _ => h.elim
  | .leaf l, s, ahead, h, hs => by
    obtain ⟨h1, h2⟩ := h
    unfold bpour bAdd
    cases ahead
    · obtain ⟨a, b, c⟩ := bhalves_is (a := l) (b := s) (by omega) (by omega)
      exact ⟨a, b, a.high, c⟩
    · obtain ⟨a, b, c⟩ := bhalves_is (a := s) (b := l) (by omega) (by omega)
      exact ⟨a, b, a.high, c⟩
  | .fork x y, s, ahead, h, hs => by
    obtain ⟨hx, hy, g1, g2⟩ := h
    have hh : (BT.fork x y).high = 1 + max x.high y.high := rfl
    unfold bpour
    rw [hh]
    cases ahead
    · obtain ⟨b1, b2, b3, b4⟩ := bpour_is y s false hy hs
      obtain ⟨c1, c2, c3, c4, c5⟩ := bfork_is hx b1 (by omega) (by omega)
      rw [if_neg (by decide)]
      refine ⟨c1, ?_, ?_, ?_⟩
      · rw [c2, b2]
        show x.list ++ (y.list ++ s) = x.list ++ y.list ++ s
        rw [List.append_assoc]
      · by_cases e : (bpour y s false).high ≤ x.high + 1
        · have := c5 (by omega) e; omega
        · omega
      · by_cases e : (bpour y s false).high ≤ x.high + 1
        · have := c5 (by omega) e; omega
        · omega
    · obtain ⟨b1, b2, b3, b4⟩ := bpour_is x s true hx hs
      obtain ⟨c1, c2, c3, c4, c5⟩ := bfork_is b1 hy (by omega) (by omega)
      rw [if_pos rfl]
      refine ⟨c1, ?_, ?_, ?_⟩
      · rw [c2, b2]
        show s ++ x.list ++ y.list = s ++ (x.list ++ y.list)
        rw [List.append_assoc]
      · by_cases e : (bpour x s true).high ≤ y.high + 1
        · have := c5 e (by omega); omega
        · omega
      · by_cases e : (bpour x s true).high ≤ y.high + 1
        · have := c5 e (by omega); omega
        · omega

def BT.small : BT → Bool
  | .leaf l => decide (l.length < 16)
  | _ => false
theorem BT.Full.notsmall {t : BT} (h : t.Full) : t.small = false := by
  cases t with
  | nil => rfl
  | leaf l => exact decide_eq_false (by have := h.1; omega)
  | fork l r => rfl
def bboth (x y : BT) : BT :=
  if x.isNil = true then y
  else if y.isNil = true then x
  else if x.small = true then bpour y x.list true
  else if y.small = true then bpour x y.list false
  else bfork x y
def bcut : BT → Nat → BT
  | .nil, _ => .nil
  | .leaf l, i => if l.length = 1 then .nil else .leaf (bDel l i)
  | .fork x y, i => if x.len ≤ i then bboth x (bcut y (i - x.len)) else bboth (bcut x i) y
/-- What both gives of two of which one was cut. -/
theorem bboth_left {x y : BT} {hx : Nat} (h : x.Near) (hy : y.Full) (h1 : x.high ≤ hx) (h2 : hx ≤ x.high + 1) (h3 : hx ≤ y.high + 1) (h4 : y.high ≤ hx + 1) (h5 : x.small = true → hx = 1) :
    (bboth x y).Full ∧ (bboth x y).list = x.list ++ y.list ∧ (bboth x y).high ≤ 1 + max hx y.high ∧ max hx y.high ≤ (bboth x y).high := by
  unfold bboth
  rcases h with h | ⟨l, rfl, l1, l2⟩
  · rw [if_neg (by rw [h.some]; decide), if_neg (by rw [hy.some]; decide), if_neg (by rw [h.notsmall]; decide), if_neg (by rw [hy.notsmall]; decide)]
    obtain ⟨c1, c2, c3, c4, c5⟩ := bfork_is h hy (by omega) (by omega)
    refine ⟨c1, c2, by omega, ?_⟩
    by_cases e : y.high ≤ x.high + 1
    · have := c5 (by omega) e; omega
    · omega
  · have e1 : (BT.leaf l).small = true := decide_eq_true l2
    have e2 : (BT.leaf l).high = 1 := rfl
    have := h5 e1
    have := hy.high
    rw [if_neg (by show ¬ false = true; decide), if_neg (by rw [hy.some]; decide), if_pos e1]
    obtain ⟨c1, c2, c3, c4⟩ := bpour_is y l true hy l2
    exact ⟨c1, c2, by show (bpour y l true).high ≤ _; omega, by show _ ≤ (bpour y l true).high; omega⟩
theorem bboth_right {x y : BT} {hy : Nat} (hx : x.Full) (h : y.Near) (h1 : y.high ≤ hy) (h2 : hy ≤ y.high + 1) (h3 : hy ≤ x.high + 1) (h4 : x.high ≤ hy + 1) (h5 : y.small = true → hy = 1) :
    (bboth x y).Full ∧ (bboth x y).list = x.list ++ y.list ∧ (bboth x y).high ≤ 1 + max x.high hy ∧ max x.high hy ≤ (bboth x y).high := by
  unfold bboth
  rcases h with h | ⟨l, rfl, l1, l2⟩
  · rw [if_neg (by rw [hx.some]; decide), if_neg (by rw [h.some]; decide), if_neg (by rw [hx.notsmall]; decide), if_neg (by rw [h.notsmall]; decide)]
    obtain ⟨c1, c2, c3, c4, c5⟩ := bfork_is hx h (by omega) (by omega)
    refine ⟨c1, c2, by omega, ?_⟩
    by_cases e : x.high ≤ y.high + 1
    · have := c5 e (by omega); omega
    · omega
  · have e1 : (BT.leaf l).small = true := decide_eq_true l2
    have e2 : (BT.leaf l).high = 1 := rfl
    have := h5 e1
    have := hx.high
    rw [if_neg (by rw [hx.some]; decide), if_neg (by show ¬ false = true; decide), if_neg (by rw [hx.notsmall]; decide), if_pos e1]
    obtain ⟨c1, c2, c3, c4⟩ := bpour_is x l false hx l2
    exact ⟨c1, c2, by show (bpour x l false).high ≤ _; omega, by show _ ≤ (bpour x l false).high; omega⟩
theorem bcut_full : ∀ (t : BT) (i : Nat), t.Full → i < t.len → (bcut t i).Near ∧ (bcut t i).list = bDel t.list i ∧ (bcut t i).high ≤ t.high ∧ t.high ≤ (bcut t i).high + 1 ∧ ((bcut t i).small = true → t.high = 1)
  | .nil, _, h, _ => h.elim
  | .leaf l, i, h, hi => by
    obtain ⟨h1, h2⟩ := h
    have hi : i < l.length := hi
    have := bDel_len hi
    unfold bcut
    rw [if_neg (by omega)]
    refine ⟨?_, rfl, Nat.le_refl _, by show 1 ≤ 2; omega, fun _ => rfl⟩
    by_cases e : 16 ≤ (bDel l i).length
    · exact .inl ⟨e, by omega⟩
    · exact .inr ⟨_, rfl, by omega, by omega⟩
  | .fork x y, i, h, hi => by
    obtain ⟨hx, hy, g1, g2⟩ := h
    have hi : i < x.len + y.len := hi
    have hh : (BT.fork x y).high = 1 + max x.high y.high := rfl
    unfold bcut
    rw [hh]
    by_cases g : x.len ≤ i
    · rw [if_pos g]
      obtain ⟨b1, b2, b3, b4, b5⟩ := bcut_full y (i - x.len) hy (by omega)
      obtain ⟨c1, c2, c3, c4⟩ := bboth_right hx b1 b3 b4 (by omega) (by omega) b5
      refine ⟨.inl c1, ?_, by omega, by omega, fun e => by rw [c1.notsmall] at e; cases e⟩
      rw [c2, b2]
      show _ = bDel (x.list ++ y.list) i
      rw [bDel_right (by rw [x.len_list]; omega), x.len_list]
    · rw [if_neg g]
      obtain ⟨b1, b2, b3, b4, b5⟩ := bcut_full x i hx (by omega)
      obtain ⟨c1, c2, c3, c4⟩ := bboth_left b1 hy b3 b4 (by omega) (by omega) b5
      refine ⟨.inl c1, ?_, by omega, by omega, fun e => by rw [c1.notsmall] at e; cases e⟩
      rw [c2, b2]
      show _ = bDel (x.list ++ y.list) i
      rw [bDel_left (by rw [x.len_list]; omega)]
theorem bcut_fine {t : BT} (h : t.Fine) {i : Nat} (hi : i < t.len) : (bcut t i).Fine ∧ (bcut t i).list = bDel t.list i := by
  rcases h with rfl | ⟨l, rfl, h1, h2⟩ | h
  · exact absurd hi (Nat.not_lt_zero _)
  · have hi : i < l.length := hi
    have := bDel_len hi
    unfold bcut
    by_cases e : l.length = 1
    · rw [if_pos e]
      exact ⟨.inl rfl, (List.eq_nil_of_length_eq_zero (by show (bDel l i).length = 0; omega)).symm⟩
    · rw [if_neg e]
      exact ⟨.inr (.inl ⟨_, rfl, by omega, by omega⟩), rfl⟩
  · obtain ⟨a, b, _⟩ := bcut_full t i h hi
    refine ⟨?_, b⟩
    rcases a with a | ⟨l, e, l1, l2⟩
    · exact .inr (.inr a)
    · exact .inr (.inl ⟨l, e, l1, by omega⟩)
end Go.Proofs.Ytdipgcbppggdhaa
namespace Go.Proofs.Ytdipgcbppggdhaa
set_option maxRecDepth 100000

/-- What is seen at a handle. -/
inductive View where
  | none
  | leaf (l : List Bool)
  | fork (k0 k1 : Int) (m o : Nat)
def View.len : View → Nat
  | .none => 0
  | .leaf l => l.length
  | .fork _ _ m _ => m
def View.ones : View → Nat
  | .none => 0
  | .leaf l => l.count true
  | .fork _ _ _ o => o
def View.small : View → Bool
  | .leaf l => decide (l.length < 16)
  | _ => false
def Vw (s : Ar) (h : Int) : View → Prop
  | .none => (s.get h).2 = false ∨ (0 < s.count h ∧ (s.get h).1.tag ≠ 1 ∧ (s.get h).1.tag ≠ 2)
  | .leaf l => s.get h = (⟨1, 0, 0, 0, 0, (bN l : Int), (l.length : Int)⟩, true) ∧ 0 < s.count h ∧ l.length ≤ 64
  | .fork k0 k1 m o => s.get h = (⟨2, k0, k1, 0, 0, (m : Int), (o : Int)⟩, true) ∧ 0 < s.count h ∧ m ≤ 1000000 ∧ o ≤ 1000000
def View.big (v : View) : Prop := v.len ≤ 1000000 ∧ v.ones ≤ 1000000
theorem Vw.big {s : Ar} {h : Int} {v : View} (x : Vw s h v) : v.big := by
  cases v with
  | none => exact ⟨Nat.zero_le _, Nat.zero_le _⟩
  | leaf l =>
    have h1 : l.length ≤ 64 := x.2.2
    have h2 : l.count true ≤ l.length := List.count_le_length
    exact ⟨by show l.length ≤ _; omega, by show l.count true ≤ _; omega⟩
  | fork k0 k1 m o => exact x.2.2

def leafN (l : List Bool) : Nd := ⟨1, 0, 0, 0, 0, (bN l : Int), (l.length : Int)⟩
def forkN (x y : Int) (m o : Nat) : Nd := ⟨2, x, y, 0, 0, (m : Int), (o : Int)⟩
/-- How high a row is. -/
inductive High (s : Ar) : Int → Nat → Prop where
  | none {h : Int} : Vw s h .none → High s h 0
  | leaf {h : Int} {l : List Bool} : Vw s h (.leaf l) → High s h 1
  | fork {h k0 k1 : Int} {m o a b : Nat} : Vw s h (.fork k0 k1 m o) → High s k0 a → High s k1 b → a ≤ 1000 → b ≤ 1000 → High s h (1 + max a b)
structure Leafs (s : Ar) (e : Int) (l : List Bool) (s' : Ar) (e' r : Int) : Prop where
  len : l.length ≤ 64
  snd : Snd s
  eq : nodeF s e (leafN l) = (s', e', r)
structure Pair (s : Ar) (e x y : Int) (s' : Ar) (e' r : Int) : Prop where
  ex : ∃ vx vy, Vw s x vx ∧ Vw s y vy ∧ nodeF s e (forkN x y (vx.len + vy.len) (vx.ones + vy.ones)) = (s', e', r)
  snd : Snd s
inductive PairOr (s : Ar) (e x y : Int) : Ar → Int → Int → Prop where
  | err : e ≠ 0 → Snd s → PairOr s e x y (s.drops [x, y]) e 0
  | pair {s' : Ar} {e' r : Int} : e = 0 → Pair s e x y s' e' r → PairOr s e x y s' e' r
structure Open (s : Ar) (h : Int) (s' : Ar) (k0 k1 : Int) : Prop where
  vw : ∃ m o, Vw s h (.fork k0 k1 m o)
  snd : Snd s
  eq : s' = (((s.keep k0).1.keep k1).1.drop h).1
inductive Fork (s : Ar) (e x y : Int) : Ar → Int → Int → Prop where
  | err : e ≠ 0 → Snd s → Fork s e x y (s.drops [x, y]) e 0
  | even {p q : Nat} {s' : Ar} {e' r : Int} : e = 0 → Snd s → High s x p → High s y q → p ≤ 1000 → q ≤ 1000 → p ≤ q + 1 → q ≤ p + 1 → Pair s 0 x y s' e' r → Fork s e x y s' e' r
  | l1 {p q a b : Nat} {u v : Int} {s1 s2 s' : Ar} {e2 e' z r : Int} : e = 0 → Snd s → High s x p → High s y q → p ≤ 1000 → q ≤ 1000 → q + 1 < p → Open s x s1 u v → Snd s1 → High s1 u a → High s1 v b → a ≤ 1000 → b ≤ 1000 → b ≤ a →
      Pair s1 0 v y s2 e2 z → Pair s2 e2 u z s' e' r → Fork s e x y s' e' r
  | l2 {p q a b' : Nat} {u v b c : Int} {s1 s2 s3 s4 s' : Ar} {e3 e4 e' z1 z2 r : Int} : e = 0 → Snd s → High s x p → High s y q → p ≤ 1000 → q ≤ 1000 → q + 1 < p → Open s x s1 u v → Snd s1 → High s1 u a → High s1 v b' → a ≤ 1000 → b' ≤ 1000 → a < b' →
      Open s1 v s2 b c → Pair s2 0 u b s3 e3 z1 → Pair s3 e3 c y s4 e4 z2 → Pair s4 e4 z1 z2 s' e' r → Fork s e x y s' e' r
  | r1 {p q a b : Nat} {u v : Int} {s1 s2 s' : Ar} {e2 e' z r : Int} : e = 0 → Snd s → High s x p → High s y q → p ≤ 1000 → q ≤ 1000 → p + 1 < q → Open s y s1 u v → Snd s1 → High s1 u a → High s1 v b → a ≤ 1000 → b ≤ 1000 → a ≤ b →
      Pair s1 0 x u s2 e2 z → Pair s2 e2 z v s' e' r → Fork s e x y s' e' r
  | r2 {p q a b' : Nat} {u v b c : Int} {s1 s2 s3 s4 s' : Ar} {e3 e4 e' z1 z2 r : Int} : e = 0 → Snd s → High s x p → High s y q → p ≤ 1000 → q ≤ 1000 → p + 1 < q → Open s y s1 u v → Snd s1 → High s1 u a → High s1 v b' → a ≤ 1000 → b' ≤ 1000 → b' < a →
      Open s1 u s2 b c → Pair s2 0 x b s3 e3 z1 → Pair s3 e3 c v s4 e4 z2 → Pair s4 e4 z1 z2 s' e' r → Fork s e x y s' e' r
/-- A bit more. -/
inductive Ins (one : Bool) : Ar → Int → Int → Nat → Ar → Int → Int → Prop where
  | none {s s' : Ar} {e e' h r : Int} {i : Nat} : Vw s h .none → Leafs s e [one] s' e' r → Ins one s e h i s' e' r
  | leaf {s s' : Ar} {e e' h r : Int} {i : Nat} {l : List Bool} : Vw s h (.leaf l) → i ≤ l.length → l.length < 64 → Leafs s e (bIns l i one) s' e' r → Ins one s e h i s' e' r
  | split {s s1 s2 s' : Ar} {e e1 e2 e' h x y r : Int} {i : Nat} {l : List Bool} : Vw s h (.leaf l) → i ≤ l.length → l.length = 64 → i ≤ 32 → Leafs s e (bIns (l.take 32) i one) s1 e1 x → Leafs s1 e1 (l.drop 32) s2 e2 y → PairOr s2 e2 x y s' e' r → Ins one s e h i s' e' r
  | split' {s s1 s2 s' : Ar} {e e1 e2 e' h x y r : Int} {i : Nat} {l : List Bool} : Vw s h (.leaf l) → i ≤ l.length → l.length = 64 → 32 < i → Leafs s e (l.take 32) s1 e1 x → Leafs s1 e1 (bIns (l.drop 32) (i - 32) one) s2 e2 y → PairOr s2 e2 x y s' e' r → Ins one s e h i s' e' r
  | right {s s2 s' : Ar} {e e2 e' h k0 k1 x r : Int} {i m o : Nat} {v : View} : Vw s h (.fork k0 k1 m o) → Snd s → i ≤ 1000000 → Vw s k0 v → v.len < i → Ins one (s.keep k0).1 e k1 (i - v.len) s2 e2 x → Fork s2 e2 k0 x s' e' r → Ins one s e h i s' e' r
  | left {s s1 s' : Ar} {e e1 e' h k0 k1 x r : Int} {i m o : Nat} {v : View} : Vw s h (.fork k0 k1 m o) → Snd s → i ≤ 1000000 → Vw s k0 v → i ≤ v.len → Ins one s e k0 i s1 e1 x → Snd s1 → Fork (s1.keep k1).1 e1 x k1 s' e' r → Ins one s e h i s' e' r
/-- Two leaves made one, or two that are alike long. -/
inductive Halves (s : Ar) (e : Int) (a b : List Bool) : Ar → Int → Int → Prop where
  | one {s' : Ar} {e' r : Int} : a.length ≤ 64 → b.length ≤ 64 → a.length + b.length ≤ 64 → Leafs s e (a ++ b) s' e' r → Halves s e a b s' e' r
  | two {s1 s2 s' : Ar} {e1 e2 e' x y r : Int} : a.length ≤ 64 → b.length ≤ 64 → 64 < a.length + b.length → Leafs s e ((a ++ b).take ((a.length + b.length + 1) / 2)) s1 e1 x → Leafs s1 e1 ((a ++ b).drop ((a.length + b.length + 1) / 2)) s2 e2 y → PairOr s2 e2 x y s' e' r → Halves s e a b s' e' r
/-- A leaf's bits more. -/
inductive Pour (ahead : Bool) : Ar → Int → Int → Int → Ar → Int → Int → Prop where
  | leaf {s s' : Ar} {e e' h sm r : Int} {l z : List Bool} : Vw s h (.leaf l) → Vw s sm (.leaf z) → Snd s → Halves (s.drops [h, sm]) e (if ahead = true then z else l) (if ahead = true then l else z) s' e' r → Pour ahead s e h sm s' e' r
  | ahead {s s1 s2 s' : Ar} {e e2 e' h sm x y p r : Int} {z : List Bool} : ahead = true → Vw s sm (.leaf z) → Snd s → Open s h s1 x y → Pour ahead s1 e x sm s2 e2 p → Fork s2 e2 p y s' e' r → Pour ahead s e h sm s' e' r
  | behind {s s1 s2 s' : Ar} {e e2 e' h sm x y p r : Int} {z : List Bool} : ahead = false → Vw s sm (.leaf z) → Snd s → Open s h s1 x y → Pour ahead s1 e y sm s2 e2 p → Fork s2 e2 x p s' e' r → Pour ahead s e h sm s' e' r
/-- Two made one, of which one may be too small. -/
inductive Both (s : Ar) (e x y : Int) : Ar → Int → Int → Prop where
  | err : e ≠ 0 → Snd s → Both s e x y (s.drops [x, y]) e 0
  | left {s' : Ar} {e' r : Int} {v : View} : e = 0 → Snd s → x ≠ 0 → y ≠ 0 → Vw s x v → v.small = true → Pour true s e y x s' e' r → Both s e x y s' e' r
  | right {s' : Ar} {e' r : Int} {v v' : View} : e = 0 → Snd s → x ≠ 0 → y ≠ 0 → Vw s x v → v.small = false → Vw s y v' → v'.small = true → Pour false s e x y s' e' r → Both s e x y s' e' r
  | fork {s' : Ar} {e' r : Int} {v v' : View} : e = 0 → Snd s → x ≠ 0 → y ≠ 0 → Vw s x v → v.small = false → Vw s y v' → v'.small = false → Fork s e x y s' e' r → Both s e x y s' e' r
/-- A bit less. -/
inductive Cut : Ar → Int → Int → Nat → Ar → Int → Int → Prop where
  | last {s : Ar} {e h : Int} {i : Nat} {l : List Bool} : Vw s h (.leaf l) → i < l.length → l.length = 1 → Snd s → Cut s e h i s e 0
  | leaf {s s' : Ar} {e e' h r : Int} {i : Nat} {l : List Bool} : Vw s h (.leaf l) → i < l.length → l.length ≠ 1 → Leafs s e (bDel l i) s' e' r → Cut s e h i s' e' r
  | right {s s2 s' : Ar} {e e2 e' h k0 k1 x r : Int} {i m o : Nat} {v : View} : Vw s h (.fork k0 k1 m o) → Snd s → i ≤ 1000000 → Vw s k0 v → v.len ≤ i → Cut (s.keep k0).1 e k1 (i - v.len) s2 e2 x → Both s2 e2 k0 x s' e' r → Cut s e h i s' e' r
  | left {s s1 s' : Ar} {e e1 e' h k0 k1 x r : Int} {i m o : Nat} {v : View} : Vw s h (.fork k0 k1 m o) → Snd s → i ≤ 1000000 → Vw s k0 v → i < v.len → Cut s e k0 i s1 e1 x → Snd s1 → Both (s1.keep k1).1 e1 x k1 s' e' r → Cut s e h i s' e' r
/-- A row of so many leaves. -/
inductive Build : Ar → Int → List Bool → Nat → Ar → Int → Int → Prop where
  | leaf {s s' : Ar} {e e' r : Int} {l : List Bool} : Leafs s e l s' e' r → Build s e l 1 s' e' r
  | fork {s s1 s2 s' : Ar} {e e1 e2 e' x y r : Int} {l : List Bool} {k : Nat} : 2 ≤ k → k ≤ 100000 → l.length ≤ 64 * k → l.length * (k / 2) / k < l.length → Build s e (l.take (l.length * (k / 2) / k)) (k / 2) s1 e1 x → Build s1 e1 (l.drop (l.length * (k / 2) / k)) (k - k / 2) s2 e2 y → PairOr s2 e2 x y s' e' r → Build s e l k s' e' r
end Go.Proofs.Ytdipgcbppggdhaa
namespace Go.Proofs.Ytdipgcbppggdhaa
set_option maxRecDepth 100000

/-- The arena holds the row at a handle. -/
def BRep (s : Ar) : Int → BT → Prop
  | h, .nil => h = 0
  | h, .leaf l => 1 ≤ h ∧ h ≤ s.n ∧ s.u h.toNat = true ∧ s.nd h.toNat = leafN l ∧ l.length ≤ 64
  | h, .fork a b => 1 ≤ h ∧ h ≤ s.n ∧ s.u h.toNat = true ∧ ∃ k0 k1, s.nd h.toNat = forkN k0 k1 (a.len + b.len) (a.ones + b.ones) ∧ BRep s k0 a ∧ BRep s k1 b
theorem BRep.ext {s t : Ar} (e : Ext s t) : ∀ {x : BT} {h : Int}, BRep s h x → BRep t h x
  | .nil, _, r => r
  | .leaf l, h, ⟨r1, r2, r3, r4, r5⟩ => ⟨r1, by rw [e.n]; exact r2, e.u _ r3, (e.nd _ r3).trans r4, r5⟩
  | .fork l r, h, ⟨r1, r2, r3, k0, k1, r4, r5, r6⟩ => ⟨r1, by rw [e.n]; exact r2, e.u _ r3, k0, k1, (e.nd _ r3).trans r4, BRep.ext e r5, BRep.ext e r6⟩
theorem BRep.range {s : Ar} {h : Int} {t : BT} (r : BRep s h t) : 0 ≤ h ∧ h ≤ s.n := by
  cases t with
  | nil => have : h = 0 := r; omega
  | leaf l => have := r.1; have := r.2.1; omega
  | fork l r' => have := r.1; have := r.2.1; omega
theorem BRep.pos {s : Ar} {h : Int} {t : BT} (r : BRep s h t) (e : t.isNil = false) : 1 ≤ h := by
  cases t with
  | nil => cases e
  | leaf l => exact r.1
  | fork l r' => exact r.1
/-- A handle that is had, or a kid of a used node: it stays live. -/
def BFirm (s : Ar) (L : List Int) (h : Int) : Prop := h ∈ L ∨ ∃ u : Nat, 1 ≤ u ∧ u ≤ s.n ∧ s.u u = true ∧ h ∈ (s.nd u).kids
theorem BFirm.ext {s s' : Ar} {L L' : List Int} {h : Int} (f : BFirm s L h) (E : Ext s s') (hL : ∀ x, x ∈ L → x ∈ L') : BFirm s' L' h := by
  rcases f with f | ⟨u, u1, u2, u3, u4⟩
  · exact .inl (hL _ f)
  · exact .inr ⟨u, u1, by rw [E.n]; exact u2, E.u _ u3, by rw [E.nd _ u3]; exact u4⟩
section
variable {s s' s1 s2 s3 : Ar} {L : List Int} {h x y e : Int}
theorem BFirm.live {t : BT} (f : BFirm s L h) (g : Gd s L) (r : BRep s h t) (h1 : 1 ≤ h) : 0 < s.count h := by
  have hr := r.range
  refine g.pos ?_
  rcases f with f | ⟨u, u1, u2, u3, u4⟩
  · exact g.live h1 hr.2 f
  · exact (g.kid (h := u) (by omega) (by omega) u3 u4 h1).2
theorem get_used (h1 : 1 ≤ h) (h2 : h ≤ s.n) (hu : s.u h.toNat = true) : s.get h = (s.nd h.toNat, true) := by
  unfold Ar.get
  rw [if_neg (by rw [hu]; simp; omega)]
theorem vw_nil (s : Ar) : Vw s 0 .none := by
  left
  unfold Ar.get
  rw [if_pos (Or.inl (by decide))]
theorem vw_leaf {l : List Bool} (r : BRep s h (.leaf l)) (hc : 0 < s.count h) : Vw s h (.leaf l) := by
  obtain ⟨r1, r2, r3, r4, r5⟩ := r
  exact ⟨by rw [get_used r1 r2 r3, r4]; rfl, hc, r5⟩
theorem vw_fork {a b : BT} (r : BRep s h (.fork a b)) (hc : 0 < s.count h) (hl : a.len + b.len ≤ 1000000) :
    ∃ k0 k1, Vw s h (.fork k0 k1 (a.len + b.len) (a.ones + b.ones)) ∧ BRep s k0 a ∧ BRep s k1 b ∧ BFirm s L k0 ∧ BFirm s L k1 := by
  obtain ⟨r1, r2, r3, k0, k1, r4, r5, r6⟩ := r
  have := a.ones_le
  have := b.ones_le
  have hk : (s.nd h.toNat).kids = [k0, k1, 0, 0] := by rw [r4]; rfl
  exact ⟨k0, k1, ⟨by rw [get_used r1 r2 r3, r4]; rfl, hc, hl, by omega⟩, r5, r6, .inr ⟨h.toNat, by omega, by omega, r3, by rw [hk]; simp⟩, .inr ⟨h.toNat, by omega, by omega, r3, by rw [hk]; simp⟩⟩
/-- What is seen of a row. -/
theorem vw_any {t : BT} (r : BRep s h t) (g : Gd s L) (f : BFirm s L h) (hl : t.len ≤ 1000000) : ∃ v, Vw s h v ∧ v.len = t.len ∧ v.ones = t.ones ∧ v.small = t.small := by
  cases t with
  | nil => obtain rfl : h = 0 := r; exact ⟨.none, vw_nil s, rfl, rfl, rfl⟩
  | leaf l => exact ⟨.leaf l, vw_leaf r (f.live g r r.1), rfl, rfl, rfl⟩
  | fork a b =>
    obtain ⟨k0, k1, v, _⟩ := vw_fork (L := L) r (f.live g r r.1) hl
    exact ⟨_, v, rfl, rfl, rfl⟩
theorem high_ex (g : Gd s L) : ∀ (t : BT) (h : Int), BRep s h t → BFirm s L h → t.len ≤ 1000000 → t.high ≤ 1000 → High s h t.high
  | .nil, h, r, _, _, _ => by obtain rfl : h = 0 := r; exact .none (vw_nil s)
  | .leaf l, h, r, f, _, _ => .leaf (vw_leaf r (f.live g r r.1))
  | .fork a b, h, r, f, hl, hh => by
    have el : (BT.fork a b).len = a.len + b.len := rfl
    have eh : (BT.fork a b).high = 1 + max a.high b.high := rfl
    rw [el] at hl
    rw [eh] at hh ⊢
    obtain ⟨k0, k1, v, r0, r1, f0, f1⟩ := vw_fork (L := L) r (f.live g r r.1) hl
    exact .fork v (high_ex g a k0 r0 f0 (by omega) (by omega)) (high_ex g b k1 r1 f1 (by omega) (by omega)) (by omega) (by omega)
/-- A handle that was made, if nothing went wrong; if something did, nothing is told of it but that it is a row's, or none. -/
def BHd (s : Ar) (e h : Int) (t : BT) : Prop := (e = 0 → BRep s h t) ∧ ∃ t', BRep s h t' ∧ t'.len ≤ 500000
theorem BHd.ext {t : BT} (d : BHd s e h t) (E : Ext s s') : BHd s' e h t := ⟨fun a => (d.1 a).ext E, by obtain ⟨t', a, b⟩ := d.2; exact ⟨t', a.ext E, b⟩⟩
theorem BHd.err {t : BT} {e' : Int} (d : BHd s e h t) (he : e ≠ 0 → e' ≠ 0) : BHd s e' h t := ⟨fun a => by by_cases e0 : e = 0; exact d.1 e0; exact absurd a (he e0), d.2⟩
theorem BHd.range {t : BT} (d : BHd s e h t) : 0 ≤ h ∧ h ≤ s.n := by obtain ⟨t', a, _⟩ := d.2; exact a.range
theorem BRep.hd {t : BT} (r : BRep s h t) (e : Int) (hl : t.len ≤ 500000) : BHd s e h t := ⟨fun _ => r, t, r, hl⟩
/-- What a way comes to. -/
structure BRes (s : Ar) (L : List Int) (e : Int) (t : BT) (m : Nat) (s' : Ar) (e' r : Int) : Prop where
  went : Went s s' m
  eok : EOk s' e'
  gd : Gd s' (r :: L)
  hd : BHd s' e' r t
  zero : e' ≠ 0 → r = 0
  stuck : e ≠ 0 → e' ≠ 0
theorem BRes.md {t : BT} {m : Nat} {e' r : Int} (b : BRes s L e t m s' e' r) : s'.made - s'.busy = s.made - s.busy := b.went.md
theorem BRes.from {t : BT} {m n : Nat} {e0 e' r : Int} (b : BRes s L e t m s' e' r) (k : Went s1 s n) (hs : e0 ≠ 0 → e ≠ 0) : BRes s1 L e0 t (n + m) s' e' r := ⟨k.trans b.went, b.eok, b.gd, b.hd, b.zero, fun a => b.stuck (hs a)⟩
theorem BRes.mono {t : BT} {m n : Nat} {e' r : Int} (b : BRes s L e t m s' e' r) (h : m ≤ n) : BRes s L e t n s' e' r := ⟨b.went.mono h, b.eok, b.gd, b.hd, b.zero, b.stuck⟩

theorem leafs_ex {l : List Bool} (g : Gd s L) (he : EOk s e) (hm : s.made - s.busy ≤ 1000000000) (hL : L.length ≤ 900000) (hl : l.length ≤ 64) :
    ∃ s' e' r, Leafs s e l s' e' r ∧ BRes s L e (.leaf l) 1 s' e' r := by
  obtain ⟨s', e', r, e1, w, o, g1, z, st, u⟩ := node_ex (x := leafN l) (L := L) (g.zero.zero.zero.zero) he (by show 1 ≤ (1 : Int) ∧ (1 : Int) ≤ 6; omega) (fun y hy => by
    left
    have : y ∈ [(0 : Int), 0, 0, 0] := hy
    simpa using this)
  refine ⟨s', e', r, ⟨hl, g.snd (by omega) hm, e1⟩, w, o, g1, ⟨fun a => ?_, ?_⟩, z, st⟩
  · obtain ⟨u1, u2, u3, u4, _⟩ := u a
    exact ⟨u1, u2, u3, u4, hl⟩
  · by_cases a : e' = 0
    · obtain ⟨u1, u2, u3, u4, _⟩ := u a
      exact ⟨.leaf l, ⟨u1, u2, u3, u4, hl⟩, by show l.length ≤ _; omega⟩
    · exact ⟨.nil, z a, by show 0 ≤ _; omega⟩
theorem pair_ex {tx ty : BT} (g : Gd s (x :: y :: L)) (he : EOk s e) (hm : s.made - s.busy ≤ 1000000000) (hL : L.length ≤ 900000) (hx : BHd s e x tx) (hy : BHd s e y ty) (hl : tx.len + ty.len ≤ 500000) :
    ∃ s' e' r, Pair s e x y s' e' r ∧ BRes s L e (.fork tx ty) 1 s' e' r := by
  have rx := hx.range
  have ry := hy.range
  have key : ∃ vx vy, Vw s x vx ∧ Vw s y vy ∧ (e = 0 → vx.len = tx.len ∧ vx.ones = tx.ones ∧ vy.len = ty.len ∧ vy.ones = ty.ones) := by
    by_cases e0 : e = 0
    · obtain ⟨vx, v1, v2, v3, _⟩ := vw_any (hx.1 e0) g (.inl (by simp)) (by omega)
      obtain ⟨vy, v4, v5, v6, _⟩ := vw_any (hy.1 e0) g (.inl (by simp)) (by omega)
      exact ⟨vx, vy, v1, v4, fun _ => ⟨v2, v3, v5, v6⟩⟩
    · obtain ⟨t1, a1, b1⟩ := hx.2
      obtain ⟨t2, a2, b2⟩ := hy.2
      obtain ⟨vx, v1, v2, v3, _⟩ := vw_any a1 g (.inl (by simp)) (by omega)
      obtain ⟨vy, v4, v5, v6, _⟩ := vw_any a2 g (.inl (by simp)) (by omega)
      exact ⟨vx, vy, v1, v4, fun a => absurd a e0⟩
  obtain ⟨vx, vy, v1, v2, v3⟩ := key
  obtain ⟨s', e', r, e1, w, o, g1, z, st, u⟩ := node_ex (x := forkN x y (vx.len + vy.len) (vx.ones + vy.ones)) (L := L) ((g.perm (L' := [x, y, 0, 0] ++ L) fun k hk => by
      show cnt (x :: y :: 0 :: 0 :: L) k = _
      simp only [cnt_cons, if_neg (show ¬ (0 : Int) = (k : Int) by omega)]
      omega)) he (by show 1 ≤ (2 : Int) ∧ (2 : Int) ≤ 6; omega) (fun z hz => by
    have hz : z ∈ [x, y, 0, 0] := hz
    simp only [List.mem_cons, List.not_mem_nil, or_false] at hz
    omega)
  refine ⟨s', e', r, ⟨⟨vx, vy, v1, v2, e1⟩, g.snd (by simp; omega) hm⟩, w, o, g1, ⟨fun a => ?_, ?_⟩, z, st⟩
  · have e0 : e = 0 := Classical.byContradiction fun h => st h a
    obtain ⟨u1, u2, u3, u4, _⟩ := u a
    obtain ⟨c1, c2, c3, c4⟩ := v3 e0
    rw [c1, c2, c3, c4] at u4
    exact ⟨u1, u2, u3, x, y, u4, (hx.1 e0).ext w.ext, (hy.1 e0).ext w.ext⟩
  · by_cases a : e' = 0
    · have e0 : e = 0 := Classical.byContradiction fun h => st h a
      obtain ⟨u1, u2, u3, u4, _⟩ := u a
      obtain ⟨c1, c2, c3, c4⟩ := v3 e0
      rw [c1, c2, c3, c4] at u4
      exact ⟨.fork tx ty, ⟨u1, u2, u3, x, y, u4, (hx.1 e0).ext w.ext, (hy.1 e0).ext w.ext⟩, hl⟩
    · exact ⟨.nil, z a, by show 0 ≤ _; omega⟩
theorem err_res {tx ty t : BT} (g : Gd s (x :: y :: L)) (he : EOk s e) (e0 : e ≠ 0) (hx : BHd s e x tx) (hy : BHd s e y ty) : BRes s L e t 1 (s.drops [x, y]) e 0 := by
  have g2 := gd_drops [x, y] g fun z hz => by
    simp only [List.mem_cons, List.not_mem_nil, or_false] at hz
    rcases hz with rfl | rfl
    · exact hx.range
    · exact hy.range
  exact ⟨(went_drops _ _).mono (by omega), he.same (drops_busy _ _) (drops_n _ _), g2.zero, ⟨fun a => absurd a e0, .nil, rfl, by show 0 ≤ _; omega⟩, fun _ => rfl, fun a => a⟩
theorem pairOr_ex {tx ty : BT} (g : Gd s (x :: y :: L)) (he : EOk s e) (hm : s.made - s.busy ≤ 1000000000) (hL : L.length ≤ 900000) (hx : BHd s e x tx) (hy : BHd s e y ty) (hl : tx.len + ty.len ≤ 500000) :
    ∃ s' e' r, PairOr s e x y s' e' r ∧ BRes s L e (.fork tx ty) 1 s' e' r := by
  by_cases e0 : e = 0
  · obtain ⟨s', e', r, a, b⟩ := pair_ex g he hm hL hx hy hl
    exact ⟨s', e', r, .pair e0 a, b⟩
  · exact ⟨_, _, _, .err e0 (g.snd (by simp; omega) hm), err_res g he e0 hx hy⟩
theorem open_ex {tx ty : BT} (g : Gd s (h :: L)) (hm : s.made - s.busy ≤ 1000000000) (hL : L.length ≤ 900000) (r : BRep s h (.fork tx ty)) (nx : tx.isNil = false) (ny : ty.isNil = false) (hl : tx.len + ty.len ≤ 500000) :
    ∃ s' k0 k1, Open s h s' k0 k1 ∧ Gd s' (k0 :: k1 :: L) ∧ Went s s' 0 ∧ BRep s' k0 tx ∧ BRep s' k1 ty ∧ s'.busy = s.busy ∧ s'.n = s.n := by
  have h1 := r.1
  have h2 := r.2.1
  have f : BFirm s (h :: L) h := .inl (by simp)
  obtain ⟨k0, k1, v, r0, r1, f0, f1⟩ := vw_fork (L := h :: L) r (f.live g r h1) (by omega)
  have c0 := f0.live g r0 (r0.pos nx)
  have g1 := gd_keep g (i := k0) (by omega)
  have E1 := ext_keep s k0
  have f1' := f1.ext E1 (L' := k0 :: h :: L) fun z hz => List.mem_cons_of_mem _ hz
  have c1 := f1'.live g1 (r1.ext E1) (r1.pos ny)
  have g2 := gd_keep g1 (i := k1) (by omega)
  have E2 := ext_keep (s.keep k0).1 k1
  have g3 : Gd (((s.keep k0).1.keep k1).1.drop h).1 (k0 :: k1 :: L) := gd_drop (i := h) (g2.perm fun k _ => by simp only [cnt_cons]; omega) (by omega) (by rw [E2.n, E1.n]; exact h2)
  have w : Went s (((s.keep k0).1.keep k1).1.drop h).1 (0 + 0 + 0) := ((went_keep s k0).trans (went_keep _ k1)).trans (went_drop _ h)
  exact ⟨_, k0, k1, ⟨⟨_, _, v⟩, g.snd (by simp; omega) hm, rfl⟩, g3, w, r0.ext w.ext, r1.ext w.ext, by rw [drop_busy, keep_busy', keep_busy'], w.ext.n⟩
end
end Go.Proofs.Ytdipgcbppggdhaa
namespace Go.Proofs.Ytdipgcbppggdhaa
set_option maxRecDepth 100000

section
variable {s s' s1 s2 s3 : Ar} {L : List Int} {h x y e : Int}
theorem Gd.swap2 {a b : Int} (g : Gd s (a :: b :: L)) : Gd s (b :: a :: L) := g.perm fun k _ => by simp only [cnt_cons]; omega
theorem Gd.rot3 {a b c : Int} (g : Gd s (a :: b :: c :: L)) : Gd s (b :: c :: a :: L) := g.perm fun k _ => by simp only [cnt_cons]; omega
theorem Gd.lot3 {a b c : Int} (g : Gd s (a :: b :: c :: L)) : Gd s (c :: a :: b :: L) := g.perm fun k _ => by simp only [cnt_cons]; omega
theorem fork_ex {tx ty : BT} (g : Gd s (x :: y :: L)) (he : EOk s e) (hm : s.made - s.busy ≤ 1000000000) (hL : L.length ≤ 800000) (hx : BHd s e x tx) (hy : BHd s e y ty) (fx : tx.Full) (fy : ty.Full) (h1 : tx.high ≤ ty.high + 2) (h2 : ty.high ≤ tx.high + 2) (hh : tx.high ≤ 500) (hl : tx.len + ty.len ≤ 500000) :
    ∃ s' e' r, Fork s e x y s' e' r ∧ BRes s L e (bfork tx ty) 3 s' e' r := by
  have sn := g.snd (by simp; omega) hm
  by_cases e0 : e = 0
  · subst e0
    have rx := hx.1 rfl
    have ry := hy.1 rfl
    have hX := high_ex g tx x rx (.inl (by simp)) (by omega) (by omega)
    have hY := high_ex g ty y ry (.inl (by simp)) (by omega) (by omega)
    by_cases a : ty.high + 1 < tx.high
    · rcases bfork_left fx fy (by omega) with ⟨tu, tv, rfl, q1, q2⟩ | ⟨tu, tb, tc, rfl, q1, q2⟩
      · rw [q2]
        have el : (BT.fork tu tv).len = tu.len + tv.len := rfl
        have eh : (BT.fork tu tv).high = 1 + max tu.high tv.high := rfl
        rw [el] at hl
        obtain ⟨s1, u, v, o1, g1, w1, r1, r2, b1, n1⟩ := open_ex (L := y :: L) g hm (by simp; omega) rx fx.1.some fx.2.1.some (by omega)
        have hU := high_ex g1 tu u r1 (.inl (by simp)) (by omega) (by omega)
        have hV := high_ex g1 tv v r2 (.inl (by simp)) (by omega) (by omega)
        have md1 := w1.md
        obtain ⟨s2, e2, z, p2, d2⟩ := pair_ex (L := u :: L) (g1.rot3) (.inl rfl) (by omega) (by simp; omega) (r2.hd 0 (by omega)) ((ry.ext w1.ext).hd 0 (by omega)) (by omega)
        have md2 := d2.md
        obtain ⟨s3, e3, r, p3, d3⟩ := pair_ex (L := L) (g := d2.gd.swap2) d2.eok (by omega) (by omega) (((r1.ext d2.went.ext).hd 0 (by omega)).err fun a => absurd rfl a) d2.hd (by show tu.len + (tv.len + ty.len) ≤ _; omega)
        exact ⟨s3, e3, r, .l1 rfl sn hX hY (by omega) (by omega) a o1 (g1.snd (by simp; omega) (by omega)) hU hV (by omega) (by omega) q1 p2 p3, (((d3.from d2.went d2.stuck).from w1 fun a => a)).mono (by omega)⟩
      · rw [q2]
        have el : (BT.fork tu (.fork tb tc)).len = tu.len + (tb.len + tc.len) := rfl
        have eh : (BT.fork tu (.fork tb tc)).high = 1 + max tu.high (BT.fork tb tc).high := rfl
        rw [el] at hl
        obtain ⟨s1, u, v, o1, g1, w1, r1, r2, b1, n1⟩ := open_ex (L := y :: L) g hm (by simp; omega) rx fx.1.some fx.2.1.some (by show tu.len + (tb.len + tc.len) ≤ _; omega)
        have hU := high_ex g1 tu u r1 (.inl (by simp)) (by omega) (by omega)
        have hV := high_ex g1 _ v r2 (.inl (by simp)) (by show tb.len + tc.len ≤ _; omega) (by omega)
        have md1 := w1.md
        obtain ⟨s2, b, c, o2, g2, w2, r3, r4, b2, n2⟩ := open_ex (L := u :: y :: L) g1.swap2 (by omega) (by simp; omega) r2 fx.2.1.1.some fx.2.1.2.1.some (by omega)
        have md2 := w2.md
        have r1' := r1.ext w2.ext
        obtain ⟨s3, e3, z1, p3, d3⟩ := pair_ex (x := u) (y := b) (L := c :: y :: L) (g2.perm fun k _ => by simp only [cnt_cons]; omega) (.inl rfl) (by omega) (by simp; omega) (r1'.hd 0 (by omega)) (r3.hd 0 (by omega)) (by omega)
        have md3 := d3.md
        obtain ⟨s4, e4, z2, p4, d4⟩ := pair_ex (x := c) (y := y) (L := z1 :: L) (d3.gd.rot3) d3.eok (by omega) (by simp; omega) (((r4.ext d3.went.ext).hd 0 (by omega)).err fun a => absurd rfl a) ((((ry.ext w1.ext).ext w2.ext).ext d3.went.ext).hd 0 (by omega) |>.err fun a => absurd rfl a) (by omega)
        have md4 := d4.md
        obtain ⟨s5, e5, r, p5, d5⟩ := pair_ex (x := z1) (y := z2) (L := L) d4.gd.swap2 d4.eok (by omega) (by omega) ((d3.hd.ext d4.went.ext).err d4.stuck) d4.hd (by show (tu.len + tb.len) + (tc.len + ty.len) ≤ _; omega)
        exact ⟨s5, e5, r, .l2 rfl sn hX hY (by omega) (by omega) a o1 (g1.snd (by simp; omega) (by omega)) hU hV (by omega) (by omega) q1 o2 p3 p4 p5, (((((d5.from d4.went d4.stuck).from d3.went d3.stuck).from w2 fun a => a).from w1 fun a => a)).mono (by omega)⟩
    · by_cases b : tx.high + 1 < ty.high
      · rcases bfork_right fx fy (by omega) with ⟨tu, tv, rfl, q1, q2⟩ | ⟨tb, tc, tv, rfl, q1, q2⟩
        · rw [q2]
          have el : (BT.fork tu tv).len = tu.len + tv.len := rfl
          have eh : (BT.fork tu tv).high = 1 + max tu.high tv.high := rfl
          rw [el] at hl
          obtain ⟨s1, u, v, o1, g1, w1, r1, r2, b1, n1⟩ := open_ex (L := x :: L) g.swap2 hm (by simp; omega) ry fy.1.some fy.2.1.some (by omega)
          have hU := high_ex g1 tu u r1 (.inl (by simp)) (by omega) (by omega)
          have hV := high_ex g1 tv v r2 (.inl (by simp)) (by omega) (by omega)
          have md1 := w1.md
          obtain ⟨s2, e2, z, p2, d2⟩ := pair_ex (x := x) (y := u) (L := v :: L) (g1.perm fun k _ => by simp only [cnt_cons]; omega) (.inl rfl) (by omega) (by simp; omega) ((rx.ext w1.ext).hd 0 (by omega)) (r1.hd 0 (by omega)) (by omega)
          have md2 := d2.md
          obtain ⟨s3, e3, r, p3, d3⟩ := pair_ex (x := z) (y := v) (L := L) d2.gd d2.eok (by omega) (by omega) d2.hd (((r2.ext d2.went.ext).hd 0 (by omega)).err fun a => absurd rfl a) (by show (tx.len + tu.len) + tv.len ≤ _; omega)
          exact ⟨s3, e3, r, .r1 rfl sn hX hY (by omega) (by omega) b o1 (g1.snd (by simp; omega) (by omega)) hU hV (by omega) (by omega) q1 p2 p3, (((d3.from d2.went d2.stuck).from w1 fun a => a)).mono (by omega)⟩
        · rw [q2]
          have el : (BT.fork (.fork tb tc) tv).len = (tb.len + tc.len) + tv.len := rfl
          have eh : (BT.fork (.fork tb tc) tv).high = 1 + max (BT.fork tb tc).high tv.high := rfl
          rw [el] at hl
          obtain ⟨s1, u, v, o1, g1, w1, r1, r2, b1, n1⟩ := open_ex (L := x :: L) g.swap2 hm (by simp; omega) ry fy.1.some fy.2.1.some (by show (tb.len + tc.len) + tv.len ≤ _; omega)
          have hU := high_ex g1 _ u r1 (.inl (by simp)) (by show tb.len + tc.len ≤ _; omega) (by omega)
          have hV := high_ex g1 tv v r2 (.inl (by simp)) (by omega) (by omega)
          have md1 := w1.md
          obtain ⟨s2, b', c, o2, g2, w2, r3, r4, b2, n2⟩ := open_ex (L := v :: x :: L) g1 (by omega) (by simp; omega) r1 fy.1.1.some fy.1.2.1.some (by omega)
          have md2 := w2.md
          have r2' := r2.ext w2.ext
          have rx' := (rx.ext w1.ext).ext w2.ext
          obtain ⟨s3, e3, z1, p3, d3⟩ := pair_ex (x := x) (y := b') (L := c :: v :: L) (g2.perm fun k _ => by simp only [cnt_cons]; omega) (.inl rfl) (by omega) (by simp; omega) (rx'.hd 0 (by omega)) (r3.hd 0 (by omega)) (by omega)
          have md3 := d3.md
          obtain ⟨s4, e4, z2, p4, d4⟩ := pair_ex (x := c) (y := v) (L := z1 :: L) (d3.gd.rot3) d3.eok (by omega) (by simp; omega) (((r4.ext d3.went.ext).hd 0 (by omega)).err fun a => absurd rfl a) (((r2'.ext d3.went.ext).hd 0 (by omega)).err fun a => absurd rfl a) (by omega)
          have md4 := d4.md
          obtain ⟨s5, e5, r, p5, d5⟩ := pair_ex (x := z1) (y := z2) (L := L) d4.gd.swap2 d4.eok (by omega) (by omega) ((d3.hd.ext d4.went.ext).err d4.stuck) d4.hd (by show (tx.len + tb.len) + (tc.len + tv.len) ≤ _; omega)
          exact ⟨s5, e5, r, .r2 rfl sn hX hY (by omega) (by omega) b o1 (g1.snd (by simp; omega) (by omega)) hU hV (by omega) (by omega) q1 o2 p3 p4 p5, (((((d5.from d4.went d4.stuck).from d3.went d3.stuck).from w2 fun a => a).from w1 fun a => a)).mono (by omega)⟩
      · rw [bfork_even (by omega) (by omega)]
        obtain ⟨s', e', r, p, d⟩ := pair_ex g he hm (by omega) hx hy hl
        exact ⟨s', e', r, .even rfl sn hX hY (by omega) (by omega) (by omega) (by omega) p, d.mono (by omega)⟩
  · exact ⟨_, _, _, .err e0 sn, (err_res g he e0 hx hy).mono (by omega)⟩
end
end Go.Proofs.Ytdipgcbppggdhaa
namespace Go.Proofs.Ytdipgcbppggdhaa
set_option maxRecDepth 100000

section
variable {one : Bool}
theorem BT.Full.fine {t : BT} (h : t.Full) : t.Fine := .inr (.inr h)
theorem BT.Fine.fork {a b : BT} (h : (BT.fork a b).Fine) : (BT.fork a b).Full := by
  rcases h with h | ⟨l, h, _⟩ | h
  · cases h
  · cases h
  · exact h
theorem BT.Fine.leaf {l : List Bool} (h : (BT.leaf l).Fine) : 1 ≤ l.length ∧ l.length ≤ 64 := by
  rcases h with h | ⟨l', h, a, b⟩ | h
  · cases h
  · injection h with h; subst h; exact ⟨a, b⟩
  · have := h.1; have := h.2; omega
theorem two_leafs {s : Ar} {e : Int} {L : List Int} {a b : List Bool} (g : Gd s L) (he : EOk s e) (hm : s.made - s.busy ≤ 1000000000) (hL : L.length ≤ 800000) (ha : a.length ≤ 64) (hb : b.length ≤ 64) :
    ∃ s1 e1 x s2 e2 y s' e' r, Leafs s e a s1 e1 x ∧ Leafs s1 e1 b s2 e2 y ∧ PairOr s2 e2 x y s' e' r ∧ BRes s L e (.fork (.leaf a) (.leaf b)) 3 s' e' r := by
  obtain ⟨s1, e1, x, p1, d1⟩ := leafs_ex g he hm (by omega) ha
  have m1 := d1.md
  obtain ⟨s2, e2, y, p2, d2⟩ := leafs_ex (L := x :: L) d1.gd d1.eok (by omega) (by simp; omega) hb
  have m2 := d2.md
  obtain ⟨s3, e3, r, p3, d3⟩ := pairOr_ex (x := x) (y := y) (L := L) d2.gd.swap2 d2.eok (by omega) (by omega) ((d1.hd.ext d2.went.ext).err d2.stuck) d2.hd (by show a.length + b.length ≤ _; omega)
  exact ⟨s1, e1, x, s2, e2, y, s3, e3, r, p1, p2, p3, (d3.from d2.went d2.stuck).from d1.went d1.stuck⟩
theorem ins_ex : ∀ (t : BT) (i : Nat) (s : Ar) (L : List Int) (h : Int), Gd s L → s.made - s.busy ≤ 1000000000 → L.length + t.high ≤ 700000 → BRep s h t → BFirm s L h → t.Fine → i ≤ t.len → t.len ≤ 400000 → t.high ≤ 400 →
    ∃ s' e' r, Ins one s 0 h i s' e' r ∧ BRes s L 0 (binsert t i one) (3 * t.high + 1) s' e' r
  | .nil, i, s, L, h, g, hm, hL, r, f, _, hi, _, _ => by
    obtain rfl : h = 0 := r
    obtain ⟨s', e', r, p, d⟩ := leafs_ex (l := [one]) g (.inl rfl) hm (by omega) (by simp)
    exact ⟨s', e', r, .none (vw_nil s) p, d.mono (by omega)⟩
  | .leaf l, i, s, L, h, g, hm, hL, r, f, hf, hi, _, _ => by
    have v := vw_leaf r (f.live g r r.1)
    obtain ⟨l1, l2⟩ := hf.leaf
    have hi : i ≤ l.length := hi
    have hh : (BT.leaf l).high = 1 := rfl
    rw [hh]
    unfold binsert
    by_cases e : l.length < 64
    · rw [if_pos e]
      obtain ⟨s', e', r, p, d⟩ := leafs_ex (l := bIns l i one) g (.inl rfl) hm (by omega) (by rw [bIns_len hi]; omega)
      exact ⟨s', e', r, .leaf v hi e p, d.mono (by omega)⟩
    · rw [if_neg e]
      have t1 : (l.take 32).length = 32 := by rw [List.length_take]; omega
      have t2 : (l.drop 32).length = 32 := by rw [List.length_drop]; omega
      by_cases c : i ≤ 32
      · rw [if_pos c]
        obtain ⟨s1, e1, x, s2, e2, y, s', e', r, p1, p2, p3, d⟩ := two_leafs (a := bIns (l.take 32) i one) (b := l.drop 32) g (.inl rfl) hm (by omega) (by rw [bIns_len (by omega)]; omega) (by omega)
        exact ⟨s', e', r, .split v hi (by omega) c p1 p2 p3, d.mono (by omega)⟩
      · rw [if_neg c]
        obtain ⟨s1, e1, x, s2, e2, y, s', e', r, p1, p2, p3, d⟩ := two_leafs (a := l.take 32) (b := bIns (l.drop 32) (i - 32) one) g (.inl rfl) hm (by omega) (by omega) (by rw [bIns_len (by omega)]; omega)
        exact ⟨s', e', r, .split' v hi (by omega) (by omega) p1 p2 p3, d.mono (by omega)⟩
  | .fork x y, i, s, L, h, g, hm, hL, r, f, hf, hi, hl, hh => by
    obtain ⟨fx, fy, g1, g2⟩ := hf.fork
    have el : (BT.fork x y).len = x.len + y.len := rfl
    have eh : (BT.fork x y).high = 1 + max x.high y.high := rfl
    rw [el] at hi hl
    rw [eh] at hh hL ⊢
    obtain ⟨k0, k1, v, r0, r1, f0, f1⟩ := vw_fork (L := L) r (f.live g r r.1) (by omega)
    obtain ⟨v0, u0, u1, _⟩ := vw_any r0 g f0 (by omega)
    have sn := g.snd (by omega) hm
    unfold binsert
    by_cases c : x.len < i
    · rw [if_pos c]
      have q0 := gd_keep g (i := k0) (by have := f0.live g r0 (r0.pos fx.some); omega)
      have E0 := went_keep s k0
      have m0 := E0.md
      obtain ⟨s2, e2, z, p, d⟩ := ins_ex y (i - x.len) (s.keep k0).1 (k0 :: L) k1 q0 (by omega) (by simp; omega) (r1.ext E0.ext) (f1.ext E0.ext fun _ hx => List.mem_cons_of_mem _ hx) fy.fine (by omega) (by omega) (by omega)
      have m1 := d.md
      obtain ⟨b1, b2, b3, b4⟩ := binsert_full y (i - x.len) one fy (by omega)
      have b5 := congrArg List.length b2
      rw [BT.len_list, bIns_len (by rw [BT.len_list]; omega), BT.len_list] at b5
      obtain ⟨s3, e3, w, p3, d3⟩ := fork_ex (x := k0) (y := z) (L := L) d.gd.swap2 d.eok (by omega) (by omega) ((((r0.ext E0.ext).ext d.went.ext).hd 0 (by omega)).err fun a => absurd rfl a) d.hd fx b1 (by omega) (by omega) (by omega) (by omega)
      exact ⟨s3, e3, w, .right v sn (by omega) u0 (by omega) (by rw [u1]; exact p) p3, ((d3.from d.went d.stuck).from E0 fun a => a).mono (by omega)⟩
    · rw [if_neg c]
      obtain ⟨s2, e2, z, p, d⟩ := ins_ex x i s L k0 g hm (by omega) r0 f0 fx.fine (by omega) (by omega) (by omega)
      have m1 := d.md
      obtain ⟨b1, b2, b3, b4⟩ := binsert_full x i one fx (by omega)
      have b5 := congrArg List.length b2
      rw [BT.len_list, bIns_len (by rw [BT.len_list]; omega), BT.len_list] at b5
      have r1' := r1.ext d.went.ext
      have q1 := gd_keep d.gd (i := k1) (by have := (f1.ext d.went.ext (L' := z :: L) fun _ hx => List.mem_cons_of_mem _ hx).live d.gd r1' (r1'.pos fy.some); omega)
      have E1 := went_keep s2 k1
      have m2 := E1.md
      obtain ⟨s3, e3, w, p3, d3⟩ := fork_ex (x := z) (y := k1) (L := L) q1.swap2 (d.eok.same (keep_busy' _ _) (keep_n _ _)) (by omega) (by omega) (d.hd.ext E1.ext) (((r1'.ext E1.ext).hd 0 (by omega)).err fun a => absurd rfl a) b1 fy (by omega) (by omega) (by omega) (by omega)
      exact ⟨s3, e3, w, .left v sn (by omega) u0 (by omega) p (d.gd.snd (by simp; omega) (by omega)) p3, ((d3.from E1 fun a => a).from d.went d.stuck).mono (by omega)⟩
theorem halves_ex {s : Ar} {e : Int} {L : List Int} {a b : List Bool} (g : Gd s L) (he : EOk s e) (hm : s.made - s.busy ≤ 1000000000) (hL : L.length ≤ 800000) (ha : a.length ≤ 64) (hb : b.length ≤ 64) :
    ∃ s' e' r, Halves s e a b s' e' r ∧ BRes s L e (bhalves a b) 3 s' e' r := by
  unfold bhalves
  by_cases c : a.length + b.length ≤ 64
  · rw [if_pos c]
    obtain ⟨s', e', r, p, d⟩ := leafs_ex (l := a ++ b) g he hm (by omega) (by simpa using c)
    exact ⟨s', e', r, .one ha hb c p, d.mono (by omega)⟩
  · rw [if_neg c]
    obtain ⟨s1, e1, x, s2, e2, y, s', e', r, p1, p2, p3, d⟩ := two_leafs (a := (a ++ b).take ((a.length + b.length + 1) / 2)) (b := (a ++ b).drop ((a.length + b.length + 1) / 2)) g he hm hL (by rw [List.length_take, List.length_append]; omega) (by rw [List.length_drop, List.length_append]; omega)
    exact ⟨s', e', r, .two ha hb (by omega) p1 p2 p3, d⟩
theorem pour_ex {ahead : Bool} : ∀ (t : BT) (s : Ar) (L : List Int) (h sm : Int) (z : List Bool), Gd s (h :: sm :: L) → s.made - s.busy ≤ 1000000000 → L.length + t.high ≤ 700000 → BRep s h t → BRep s sm (.leaf z) → z.length < 16 → t.Full → t.len ≤ 400000 → t.high ≤ 400 →
    ∃ s' e' r, Pour ahead s 0 h sm s' e' r ∧ BRes s L 0 (bpour t z ahead) (3 * t.high) s' e' r
  | .nil, _, _, _, _, _, _, _, _, _, _, _, hf, _, _ => hf.elim
  | .leaf l, s, L, h, sm, z, g, hm, hL, r, rz, hz, hf, _, _ => by
    have v := vw_leaf r (BFirm.live (L := h :: sm :: L) (.inl (by simp)) g r r.1)
    have v' := vw_leaf rz (BFirm.live (L := h :: sm :: L) (.inl (by simp)) g rz rz.1)
    have g2 := gd_drops [h, sm] (L := L) g fun y hy => by
      simp only [List.mem_cons, List.not_mem_nil, or_false] at hy
      rcases hy with rfl | rfl
      · exact r.range
      · exact rz.range
    have w := went_drops [h, sm] s
    have m := w.md
    have l2 := hf.2
    have hh : (BT.leaf l).high = 1 := rfl
    rw [hh]
    obtain ⟨s', e', q, p, d⟩ := halves_ex (e := 0) (a := if ahead = true then z else l) (b := if ahead = true then l else z) g2 (.inl rfl) (by omega) (by omega) (by split <;> omega) (by split <;> omega)
    refine ⟨s', e', q, .leaf v v' (g.snd (by simp; omega) hm) p, ?_⟩
    have : bpour (.leaf l) z ahead = bhalves (if ahead = true then z else l) (if ahead = true then l else z) := by cases ahead <;> rfl
    rw [this]
    exact (d.from w fun a => a).mono (by omega)
  | .fork x y, s, L, h, sm, z, g, hm, hL, r, rz, hz, hf, hl, hh => by
    obtain ⟨fx, fy, g1, g2⟩ := hf
    have el : (BT.fork x y).len = x.len + y.len := rfl
    have eh : (BT.fork x y).high = 1 + max x.high y.high := rfl
    rw [el] at hl
    rw [eh] at hh hL ⊢
    have v' := vw_leaf rz (BFirm.live (L := h :: sm :: L) (.inl (by simp)) g rz rz.1)
    have sn := g.snd (by simp; omega) hm
    obtain ⟨s1, k0, k1, o1, q1, w1, r0, r1, b1, n1⟩ := open_ex (L := sm :: L) g hm (by simp; omega) r fx.some fy.some (by omega)
    have m1 := w1.md
    unfold bpour
    cases ahead
    · rw [if_neg (by decide)]
      obtain ⟨s2, e2, p, pp, d⟩ := pour_ex (ahead := false) y s1 (k0 :: L) k1 sm z (q1.perm fun k _ => by simp only [cnt_cons]; omega) (by omega) (by simp; omega) r1 (rz.ext w1.ext) hz fy (by omega) (by omega)
      have m2 := d.md
      obtain ⟨c1, c2, c3, c4⟩ := bpour_is y z false fy hz
      have c5 := congrArg List.length c2
      rw [BT.len_list, bAdd, if_neg (by decide), List.length_append, BT.len_list] at c5
      obtain ⟨s3, e3, w, p3, d3⟩ := fork_ex (x := k0) (y := p) (L := L) d.gd.swap2 d.eok (by omega) (by omega) (((r0.ext d.went.ext).hd 0 (by omega)).err fun a => absurd rfl a) d.hd fx c1 (by omega) (by omega) (by omega) (by omega)
      exact ⟨s3, e3, w, .behind rfl v' sn o1 pp p3, ((d3.from d.went d.stuck).from w1 fun a => a).mono (by omega)⟩
    · rw [if_pos rfl]
      obtain ⟨s2, e2, p, pp, d⟩ := pour_ex (ahead := true) x s1 (k1 :: L) k0 sm z (q1.perm fun k _ => by simp only [cnt_cons]; omega) (by omega) (by simp; omega) r0 (rz.ext w1.ext) hz fx (by omega) (by omega)
      have m2 := d.md
      obtain ⟨c1, c2, c3, c4⟩ := bpour_is x z true fx hz
      have c5 := congrArg List.length c2
      rw [BT.len_list, bAdd, if_pos rfl, List.length_append, BT.len_list] at c5
      obtain ⟨s3, e3, w, p3, d3⟩ := fork_ex (x := p) (y := k1) (L := L) d.gd d.eok (by omega) (by omega) d.hd (((r1.ext d.went.ext).hd 0 (by omega)).err fun a => absurd rfl a) c1 fy (by omega) (by omega) (by omega) (by omega)
      exact ⟨s3, e3, w, .ahead rfl v' sn o1 pp p3, ((d3.from d.went d.stuck).from w1 fun a => a).mono (by omega)⟩
theorem BT.Near.some {t : BT} (h : t.Near) : t.isNil = false := by
  rcases h with h | ⟨l, rfl, _⟩
  · exact h.some
  · rfl
theorem BT.Near.full {t : BT} (h : t.Near) (e : t.small = false) : t.Full := by
  rcases h with h | ⟨l, rfl, _, a⟩
  · exact h
  · have : (BT.leaf l).small = true := decide_eq_true a
    rw [this] at e; cases e
theorem BT.small_leaf {t : BT} (h : t.small = true) : ∃ l, t = .leaf l ∧ l.length < 16 := by
  cases t with
  | leaf l => exact ⟨l, rfl, of_decide_eq_true h⟩
  | nil => cases h
  | fork a b => cases h
def bothCost (tx ty : BT) : Nat := if tx.small = true then 3 * ty.high else if ty.small = true then 3 * tx.high else 3
theorem both_ex {s : Ar} {e x y : Int} {L : List Int} {tx ty : BT} (g : Gd s (x :: y :: L)) (he : EOk s e) (hm : s.made - s.busy ≤ 1000000000) (hL : L.length ≤ 600000) (hx : BHd s e x tx) (hy : BHd s e y ty) (nx : tx.Near) (ny : ty.Near) (one : tx.small = false ∨ ty.small = false)
    (hb : tx.small = false → ty.small = false → tx.high ≤ ty.high + 2 ∧ ty.high ≤ tx.high + 2) (hb1 : tx.small = true → ty.high ≤ 2) (hb2 : ty.small = true → tx.high ≤ 2) (hh : tx.high ≤ 400 ∧ ty.high ≤ 400) (hl : tx.len + ty.len ≤ 400000) :
    ∃ s' e' r, Both s e x y s' e' r ∧ BRes s L e (bboth tx ty) (max 1 (bothCost tx ty)) s' e' r := by
  have sn := g.snd (by simp; omega) hm
  by_cases e0 : e = 0
  · subst e0
    have rx := hx.1 rfl
    have ry := hy.1 rfl
    have x0 := rx.pos nx.some
    have y0 := ry.pos ny.some
    obtain ⟨v, v1, _, _, v4⟩ := vw_any rx g (.inl (by simp)) (by omega)
    obtain ⟨v', v1', _, _, v4'⟩ := vw_any ry g (.inl (by simp)) (by omega)
    unfold bboth bothCost
    rw [if_neg (by rw [nx.some]; decide), if_neg (by rw [ny.some]; decide)]
    cases sx : tx.small
    · cases sy : ty.small
      · simp only [Bool.false_eq_true, if_false]
        obtain ⟨b1, b2⟩ := hb sx sy
        obtain ⟨s', e', r, p, d⟩ := fork_ex g he hm (by omega) hx hy (nx.full sx) (ny.full sy) b1 b2 (by omega) (by omega)
        exact ⟨s', e', r, .fork rfl sn (by omega) (by omega) v1 (by rw [v4, sx]) v1' (by rw [v4', sy]) p, d.mono (by omega)⟩
      · simp only [Bool.false_eq_true, if_false, if_true]
        obtain ⟨l, rfl, l2⟩ := BT.small_leaf sy
        have := hb2 sy
        obtain ⟨s', e', r, p, d⟩ := pour_ex (ahead := false) tx s L x y l g hm (by omega) rx ry l2 (nx.full sx) (by omega) (by omega)
        exact ⟨s', e', r, .right rfl sn (by omega) (by omega) v1 (by rw [v4, sx]) v1' (by rw [v4', sy]) p, d.mono (by omega)⟩
    · simp only [if_true]
      obtain ⟨l, rfl, l2⟩ := BT.small_leaf sx
      have := hb1 sx
      have sy : ty.small = false := by
        rcases one with h | h
        · rw [sx] at h; cases h
        · exact h
      obtain ⟨s', e', r, p, d⟩ := pour_ex (ahead := true) ty s L y x l g.swap2 hm (by omega) ry rx l2 (ny.full sy) (by omega) (by omega)
      exact ⟨s', e', r, .left rfl sn (by omega) (by omega) v1 (by rw [v4, sx]) p, d.mono (by omega)⟩
  · exact ⟨_, _, _, .err e0 sn, (err_res g he e0 hx hy).mono (by omega)⟩
end
end Go.Proofs.Ytdipgcbppggdhaa
namespace Go.Proofs.Ytdipgcbppggdhaa
set_option maxRecDepth 100000

theorem bcut_len {t : BT} (h : t.Full) {i : Nat} (hi : i < t.len) : (bcut t i).len + 1 = t.len := by
  obtain ⟨_, b, _⟩ := bcut_full t i h hi
  have b5 := congrArg List.length b
  have := bDel_len (l := t.list) (i := i) (by rw [BT.len_list]; omega)
  rw [BT.len_list] at b5 this
  omega
theorem cut_ex : ∀ (t : BT) (i : Nat) (s : Ar) (L : List Int) (h : Int), Gd s L → s.made - s.busy ≤ 1000000000 → L.length + t.high ≤ 500000 → BRep s h t → BFirm s L h → t.Fine → i < t.len → t.len ≤ 400000 → t.high ≤ 400 →
    ∃ s' e' r, Cut s 0 h i s' e' r ∧ BRes s L 0 (bcut t i) (3 * t.high - 2) s' e' r
  | .nil, i, _, _, _, _, _, _, _, _, _, hi, _, _ => absurd hi (Nat.not_lt_zero _)
  | .leaf l, i, s, L, h, g, hm, hL, r, f, hf, hi, _, _ => by
    have v := vw_leaf r (f.live g r r.1)
    obtain ⟨l1, l2⟩ := hf.leaf
    have hi : i < l.length := hi
    have := bDel_len hi
    unfold bcut
    by_cases e : l.length = 1
    · rw [if_pos e]
      exact ⟨s, 0, 0, .last v hi e (g.snd (by omega) hm), (Went.refl s).mono (by omega), .inl rfl, g.zero, ⟨fun _ => rfl, .nil, rfl, by show 0 ≤ _; omega⟩, fun _ => rfl, fun a => absurd rfl a⟩
    · rw [if_neg e]
      obtain ⟨s', e', r, p, d⟩ := leafs_ex (l := bDel l i) g (.inl rfl) hm (by omega) (by omega)
      exact ⟨s', e', r, .leaf v hi e p, d.mono (by show 1 ≤ 3 * 1 - 2; omega)⟩
  | .fork x y, i, s, L, h, g, hm, hL, r, f, hf, hi, hl, hh => by
    obtain ⟨fx, fy, g1, g2⟩ := hf.fork
    have el : (BT.fork x y).len = x.len + y.len := rfl
    have eh : (BT.fork x y).high = 1 + max x.high y.high := rfl
    rw [el] at hi hl
    rw [eh] at hh hL ⊢
    obtain ⟨k0, k1, v, r0, r1, f0, f1⟩ := vw_fork (L := L) r (f.live g r r.1) (by omega)
    obtain ⟨v0, u0, u1, _⟩ := vw_any r0 g f0 (by omega)
    have sn := g.snd (by omega) hm
    have hx1 := fx.high
    have hy1 := fy.high
    unfold bcut
    by_cases c : x.len ≤ i
    · rw [if_pos c]
      have q0 := gd_keep g (i := k0) (by have := f0.live g r0 (r0.pos fx.some); omega)
      have E0 := went_keep s k0
      have m0 := E0.md
      obtain ⟨s2, e2, z, p, d⟩ := cut_ex y (i - x.len) (s.keep k0).1 (k0 :: L) k1 q0 (by omega) (by simp; omega) (r1.ext E0.ext) (f1.ext E0.ext fun _ hx => List.mem_cons_of_mem _ hx) fy.fine (by omega) (by omega) (by omega)
      have m1 := d.md
      obtain ⟨b1, b2, b3, b4, b5⟩ := bcut_full y (i - x.len) fy (by omega)
      have b6 := bcut_len fy (i := i - x.len) (by omega)
      obtain ⟨s3, e3, w, p3, d3⟩ := both_ex (x := k0) (y := z) (L := L) d.gd.swap2 d.eok (by omega) (by omega) ((((r0.ext E0.ext).ext d.went.ext).hd 0 (by omega)).err fun a => absurd rfl a) d.hd (.inl fx) b1 (.inl fx.notsmall) (fun _ _ => by omega) (fun a => by rw [fx.notsmall] at a; cases a) (fun a => by have := b5 a; omega) (by omega) (by omega)
      refine ⟨s3, e3, w, .right v sn (by omega) u0 (by omega) (by rw [u1]; exact p) p3, ?_⟩
      refine (((d3.from d.went d.stuck).from E0 fun a => a)).mono ?_
      unfold bothCost
      rw [if_neg (by rw [fx.notsmall]; decide)]
      by_cases sm : (bcut y (i - x.len)).small = true
      · rw [if_pos sm]
        have := b5 sm
        omega
      · rw [if_neg sm]
        omega
    · rw [if_neg c]
      obtain ⟨s2, e2, z, p, d⟩ := cut_ex x i s L k0 g hm (by omega) r0 f0 fx.fine (by omega) (by omega) (by omega)
      have m1 := d.md
      obtain ⟨b1, b2, b3, b4, b5⟩ := bcut_full x i fx (by omega)
      have b6 := bcut_len fx (i := i) (by omega)
      have r1' := r1.ext d.went.ext
      have q1 := gd_keep d.gd (i := k1) (by have := (f1.ext d.went.ext (L' := z :: L) fun _ hx => List.mem_cons_of_mem _ hx).live d.gd r1' (r1'.pos fy.some); omega)
      have E1 := went_keep s2 k1
      have m2 := E1.md
      obtain ⟨s3, e3, w, p3, d3⟩ := both_ex (x := z) (y := k1) (L := L) q1.swap2 (d.eok.same (keep_busy' _ _) (keep_n _ _)) (by omega) (by omega) (d.hd.ext E1.ext) (((r1'.ext E1.ext).hd 0 (by omega)).err fun a => absurd rfl a) b1 (.inl fy) (.inr fy.notsmall) (fun _ _ => by omega) (fun a => by have := b5 a; omega) (fun a => by rw [fy.notsmall] at a; cases a) (by omega) (by omega)
      refine ⟨s3, e3, w, .left v sn (by omega) u0 (by omega) p (d.gd.snd (by simp; omega) (by omega)) p3, ?_⟩
      refine (((d3.from E1 fun a => a).from d.went d.stuck)).mono ?_
      unfold bothCost
      by_cases sm : (bcut x i).small = true
      · rw [if_pos sm]
        have := b5 sm
        omega
      · rw [if_neg sm, if_neg (by rw [fy.notsmall]; decide)]
        omega
/-- A tree of so many leaves: how high it is. -/
def Deep (k h : Nat) : Prop := 1 ≤ h ∧ k ≤ 2 ^ (h - 1) ∧ (2 ≤ h → 2 ^ (h - 2) < k)
theorem Deep.next {a b h1 h2 : Nat} (d1 : Deep a h1) (d2 : Deep b h2) (e : a ≤ b) (e' : b ≤ a + 1) (a1 : 1 ≤ a) : Deep (a + b) (1 + max h1 h2) ∧ h1 ≤ h2 ∧ h2 ≤ h1 + 1 := by
  obtain ⟨p1, p2, p3⟩ := d1
  obtain ⟨q1, q2, q3⟩ := d2
  have le : ∀ {i j : Nat}, 2 ^ i < 2 ^ j → i < j := fun h => (Nat.pow_lt_pow_iff_right (by decide)).1 h
  have l1 : h1 ≤ h2 := by
    by_cases c : 2 ≤ h1
    · have := le (Nat.lt_of_lt_of_le (p3 c) (Nat.le_trans e q2)); omega
    · omega
  have l2 : h2 ≤ h1 + 1 := by
    by_cases c : 2 ≤ h2
    · have h3 := q3 c
      have h4 : 2 ^ (h2 - 2) ≤ 2 ^ (h1 - 1) := by omega
      have := (Nat.pow_le_pow_iff_right (a := 2) (by decide)).1 h4
      omega
    · omega
  refine ⟨⟨by omega, ?_, fun _ => ?_⟩, l1, l2⟩
  · rw [show max h1 h2 = h2 by omega, show 1 + h2 - 1 = (h2 - 1) + 1 by omega, Nat.pow_succ]
    omega
  · rw [show max h1 h2 = h2 by omega, show 1 + h2 - 2 = h2 - 1 by omega]
    by_cases c : 2 ≤ h2
    · have h3 := q3 c
      rw [show h2 - 1 = (h2 - 2) + 1 by omega, Nat.pow_succ]
      omega
    · rw [show h2 - 1 = 0 by omega]; omega
theorem part_bd {n k j : Nat} (hk : 1 ≤ k) (hj : j ≤ k) (h1 : 32 * k ≤ n) (h2 : n ≤ 64 * k) : 32 * j ≤ n * j / k ∧ n * j / k ≤ 64 * j ∧ 32 * (k - j) ≤ n - n * j / k ∧ n - n * j / k ≤ 64 * (k - j) ∧ n * j / k ≤ n := by
  have e1 : 32 * j ≤ n * j / k := by
    rw [Nat.le_div_iff_mul_le (by omega), Nat.mul_right_comm]
    exact Nat.mul_le_mul_right j h1
  have e2 : n * j / k ≤ 64 * j := Nat.div_le_of_le_mul (by rw [Nat.mul_comm k, Nat.mul_right_comm]; exact Nat.mul_le_mul_right j h2)
  have e0 : n * j = n * k - n * (k - j) := by rw [← Nat.mul_sub]; congr 1; omega
  have e3 : n * j / k + 32 * (k - j) ≤ n := by
    have a : n * j + 32 * (k - j) * k ≤ n * k := by
      have b : 32 * (k - j) * k ≤ n * (k - j) := by rw [Nat.mul_right_comm]; exact Nat.mul_le_mul_right _ h1
      have c : n * (k - j) ≤ n * k := Nat.mul_le_mul_left n (Nat.sub_le _ _)
      omega
    have := Nat.div_le_div_right (c := k) a
    rw [Nat.add_mul_div_right _ _ (by omega), Nat.mul_div_cancel _ (by omega)] at this
    exact this
  have e4 : n ≤ n * j / k + 64 * (k - j) := by
    have a : n * k ≤ n * j + 64 * (k - j) * k := by
      have b : n * (k - j) ≤ 64 * (k - j) * k := by rw [Nat.mul_right_comm]; exact Nat.mul_le_mul_right _ h2
      have c : n * (k - j) ≤ n * k := Nat.mul_le_mul_left n (Nat.sub_le _ _)
      omega
    have := Nat.div_le_div_right (c := k) a
    rw [Nat.add_mul_div_right _ _ (by omega), Nat.mul_div_cancel _ (by omega)] at this
    exact this
  omega
theorem build_ex : ∀ (m k : Nat) (l : List Bool) (s : Ar) (e : Int) (L : List Int), k ≤ m → 1 ≤ k → k ≤ 1000 → (k = 1 → 1 ≤ l.length ∧ l.length ≤ 64) → (2 ≤ k → 32 * k ≤ l.length ∧ l.length ≤ 64 * k) → Gd s L → EOk s e → s.made - s.busy ≤ 1000000000 → L.length + k ≤ 500000 →
    ∃ t s' e' r, t.list = l ∧ t.Fine ∧ t.isNil = false ∧ (32 ≤ l.length → t.Full) ∧ Deep k t.high ∧ Build s e l k s' e' r ∧ BRes s L e t (2 * k - 1) s' e' r
  | 0, k, _, _, _, _, h, h1, _, _, _, _, _, _, _ => absurd h (by omega)
  | m + 1, k, l, s, e, L, h, h1, hk, hl1, hl2, g, he, hm, hL => by
    by_cases c : k = 1
    · subst c
      obtain ⟨a, b⟩ := hl1 rfl
      obtain ⟨s', e', r, p, d⟩ := leafs_ex (l := l) g he hm (by omega) b
      exact ⟨.leaf l, s', e', r, rfl, .inr (.inl ⟨l, rfl, a, b⟩), rfl, fun x => ⟨by omega, b⟩, ⟨Nat.le_refl _, Nat.le_refl _, fun x => absurd x (by show ¬ 2 ≤ 1; omega)⟩, .leaf p, d⟩
    · obtain ⟨a, b⟩ := hl2 (by omega)
      obtain ⟨q1, q2, q3, q4, q5⟩ := part_bd (n := l.length) (k := k) (j := k / 2) h1 (by omega) a b
      generalize hat : l.length * (k / 2) / k = at_ at *
      have t1 : (l.take at_).length = at_ := by rw [List.length_take]; omega
      have t2 : (l.drop at_).length = l.length - at_ := by rw [List.length_drop]
      obtain ⟨tx, s1, e1, x, a1, a2, a3, a4, a5, a6, a7⟩ := build_ex m (k / 2) (l.take at_) s e L (by omega) (by omega) (by omega) (fun z => by rw [t1]; rw [z] at q1 q2; omega) (fun z => by rw [t1]; omega) g he hm (by omega)
      have m1 := a7.md
      obtain ⟨ty, s2, e2, y, b1, b2, b3, b4, b5, b6, b7⟩ := build_ex m (k - k / 2) (l.drop at_) s1 e1 (x :: L) (by omega) (by omega) (by omega) (fun z => by rw [t2]; rw [z] at q3 q4; omega) (fun z => by rw [t2]; omega) a7.gd a7.eok (by omega) (by simp; omega)
      have m2 := b7.md
      have l1 := BT.len_list tx
      have l2 := BT.len_list ty
      rw [a1, t1] at l1
      rw [b1, t2] at l2
      obtain ⟨s3, e3, r, p3, d3⟩ := pairOr_ex (x := x) (y := y) (L := L) b7.gd.swap2 b7.eok (by omega) (by omega) ((a7.hd.ext b7.went.ext).err b7.stuck) b7.hd (by omega)
      obtain ⟨f1, f2, f3⟩ := a5.next b5 (by omega) (by omega) (by omega)
      have full : (BT.fork tx ty).Full := ⟨a4 (by rw [t1]; omega), b4 (by rw [t2]; omega), by omega, f3⟩
      refine ⟨.fork tx ty, s3, e3, r, ?_, .inr (.inr full), rfl, fun _ => full, ?_, ?_, ((d3.from b7.went b7.stuck).from a7.went a7.stuck).mono (by omega)⟩
      · show tx.list ++ ty.list = l
        rw [a1, b1, List.take_append_drop]
      · rw [show k / 2 + (k - k / 2) = k by omega] at f1
        exact f1
      · subst hat
        exact .fork (by omega) (by omega) b (by omega) a6 b6 p3
end Go.Proofs.Ytdipgcbppggdhaa
namespace Go.Proofs.Ytdipgcbppggdhaa
set_option maxRecDepth 100000

/-- How many leaves a balanced tree has at least. -/
def fibB : Nat → Nat
  | 0 => 1
  | 1 => 1
  | n + 2 => fibB (n + 1) + fibB n
theorem fibB_le (n : Nat) : fibB n ≤ fibB (n + 1) := by
  cases n with
  | zero => exact Nat.le_refl _
  | succ n => show fibB (n + 1) ≤ fibB (n + 1) + fibB n; omega
theorem fibB_mono {m n : Nat} (h : m ≤ n) : fibB m ≤ fibB n := by
  induction h with
  | refl => exact Nat.le_refl _
  | step _ ih => exact Nat.le_trans ih (fibB_le _)
theorem BT.Full.leaves : ∀ {t : BT}, t.Full → 16 * fibB t.high ≤ t.len
  | .leaf l, h => by
    have := h.len
    show 16 * 1 ≤ _
    omega
  | .fork a b, h => by
    obtain ⟨ha, hb, h1, h2⟩ := h
    have l1 := BT.Full.leaves ha
    have l2 := BT.Full.leaves hb
    show 16 * fibB (1 + max a.high b.high) ≤ a.len + b.len
    have pa := ha.high
    have pb := hb.high
    by_cases c : a.high ≤ b.high
    · obtain ⟨k, hk⟩ : ∃ k, b.high = k + 1 := ⟨b.high - 1, by omega⟩
      rw [show 1 + max a.high b.high = k + 2 by omega]
      have := fibB_mono (m := k) (n := a.high) (by omega)
      rw [hk] at l2
      show 16 * (fibB (k + 1) + fibB k) ≤ _
      omega
    · obtain ⟨k, hk⟩ : ∃ k, a.high = k + 1 := ⟨a.high - 1, by omega⟩
      rw [show 1 + max a.high b.high = k + 2 by omega]
      have := fibB_mono (m := k) (n := b.high) (by omega)
      rw [hk] at l1
      show 16 * (fibB (k + 1) + fibB k) ≤ _
      omega
  | .nil, h => by cases h
/-- How high a row of so many bits is at most. -/
def hi (n : Nat) : Nat := if n < 32 then 1 else if n < 48 then 2 else if n < 80 then 3 else if n < 128 then 4 else if n < 208 then 5 else if n < 336 then 6 else if n < 544 then 7 else if n < 880 then 8 else n / 16 + 1
theorem hi_pos (n : Nat) : 1 ≤ hi n := by
  unfold hi
  repeat' split
  all_goals omega
set_option maxHeartbeats 2000000 in
theorem hi_mono {m n : Nat} (h : m ≤ n) : hi m ≤ hi n := by
  unfold hi
  repeat' split
  all_goals omega
set_option maxHeartbeats 2000000 in
theorem BT.Full.hi {t : BT} (h : t.Full) : t.high ≤ hi t.len := by
  have l := h.leaves
  have h16 : 16 * t.high ≤ t.len := by
    have : ∀ n, n ≤ fibB n ∨ n ≤ 5 := by
      intro n
      induction n using Nat.strongRecOn with
      | ind n ih =>
        match n with
        | 0 => exact .inr (by omega)
        | 1 => exact .inr (by omega)
        | 2 => exact .inr (by omega)
        | 3 => exact .inr (by omega)
        | 4 => exact .inr (by omega)
        | 5 => exact .inr (by omega)
        | 6 => exact .inl (by decide)
        | 7 => exact .inl (by decide)
        | n + 8 =>
          left
          have h1 := ih (n + 7) (by omega)
          have h2 := ih (n + 6) (by omega)
          show n + 8 ≤ fibB (n + 7) + fibB (n + 6)
          omega
    rcases this t.high with c | c
    · omega
    · have := fibB_mono (m := 1) (n := t.high)
      have e2 : fibB 2 = 2 := rfl
      have e3 : fibB 3 = 3 := rfl
      have e4 : fibB 4 = 5 := rfl
      have e5 : fibB 5 = 8 := rfl
      generalize t.high = k at *
      have : k = 0 ∨ k = 1 ∨ k = 2 ∨ k = 3 ∨ k = 4 ∨ k = 5 := by omega
      rcases this with rfl | rfl | rfl | rfl | rfl | rfl
      · omega
      · have e1 : fibB 1 = 1 := rfl
        omega
      all_goals omega
  have key : ∀ k, k ≤ t.high → 16 * fibB k ≤ t.len := fun k hk => Nat.le_trans (Nat.mul_le_mul_left _ (fibB_mono hk)) l
  have k2 := key 2
  have k3 := key 3
  have k4 := key 4
  have k5 := key 5
  have k6 := key 6
  have k7 := key 7
  have k8 := key 8
  have k9 := key 9
  rw [show fibB 2 = 2 from rfl] at k2
  rw [show fibB 3 = 3 from rfl] at k3
  rw [show fibB 4 = 5 from rfl] at k4
  rw [show fibB 5 = 8 from rfl] at k5
  rw [show fibB 6 = 13 from rfl] at k6
  rw [show fibB 7 = 21 from rfl] at k7
  rw [show fibB 8 = 34 from rfl] at k8
  rw [show fibB 9 = 55 from rfl] at k9
  clear key l
  unfold Go.Proofs.Ytdipgcbppggdhaa.hi
  repeat' split
  all_goals omega
theorem BT.Fine.hi {t : BT} (h : t.Fine) : t.high ≤ hi t.len := by
  rcases h with rfl | ⟨l, rfl, _, _⟩ | h
  · exact Nat.zero_le _
  · exact hi_pos _
  · exact h.hi
/-- How many nodes. -/
def BT.nodes : BT → Nat
  | .nil => 0
  | .leaf _ => 1
  | .fork a b => 1 + a.nodes + b.nodes
theorem BT.Full.nodes : ∀ {t : BT}, t.Full → 8 * (t.nodes + 1) ≤ t.len
  | .leaf l, h => by
    have := h.len
    show 8 * (1 + 1) ≤ _
    omega
  | .fork a b, h => by
    obtain ⟨ha, hb, _⟩ := h
    have h1 := BT.Full.nodes ha
    have h2 := BT.Full.nodes hb
    show 8 * (1 + a.nodes + b.nodes + 1) ≤ a.len + b.len
    omega
  | .nil, h => by cases h
theorem BT.Fine.nodes {t : BT} (h : t.Fine) : t.nodes ≤ 1 + t.len / 8 := by
  rcases h with rfl | ⟨l, rfl, _, _⟩ | h
  · exact Nat.zero_le _
  · show 1 ≤ _
    omega
  · have := h.nodes
    omega
/-- The bits of a number. -/
def bl (n : Nat) : Nat := if h : n = 0 then 0 else 1 + bl (n / 2)
termination_by n
decreasing_by omega
theorem bl_is (n : Nat) : n < 2 ^ bl n ∧ ∀ k, k < bl n → 2 ^ k ≤ n := by
  induction n using Nat.strongRecOn with
  | ind n ih =>
    unfold bl
    by_cases h : n = 0
    · rw [dif_pos h]
      exact ⟨by omega, fun k hk => absurd hk (Nat.not_lt_zero _)⟩
    · rw [dif_neg h]
      obtain ⟨a, b⟩ := ih (n / 2) (by omega)
      refine ⟨by rw [Nat.pow_add]; omega, fun k hk => ?_⟩
      cases k with
      | zero => omega
      | succ k =>
        have := b k (by omega)
        rw [Nat.pow_succ]
        omega
theorem bl_mono {m n : Nat} (h : m ≤ n) : bl m ≤ bl n := by
  by_cases c : bl m ≤ bl n
  · exact c
  · have := (bl_is m).2 (bl n) (by omega)
    have := (bl_is n).1
    omega
theorem bl_ge {k n : Nat} (h : 2 ^ k ≤ n) : k + 1 ≤ bl n := by
  by_cases c : k + 1 ≤ bl n
  · exact c
  · have h1 := (bl_is n).1
    have := Nat.pow_le_pow_right (n := 2) (by omega) (show bl n ≤ k by omega)
    omega
/-- What a change of a row of so many bits makes at most. -/
theorem hi_made {n : Nat} (h : n ≤ 879) : 3 * hi n + 1 ≤ 4 + 4 * bl (n / 16) := by
  have k0 := bl_ge (k := 0) (n := n / 16)
  have k1 := bl_ge (k := 1) (n := n / 16)
  have k2 := bl_ge (k := 2) (n := n / 16)
  have k3 := bl_ge (k := 3) (n := n / 16)
  have k4 := bl_ge (k := 4) (n := n / 16)
  have k5 := bl_ge (k := 5) (n := n / 16)
  rw [show (2 : Nat) ^ 0 = 1 from rfl] at k0
  rw [show (2 : Nat) ^ 1 = 2 from rfl] at k1
  rw [show (2 : Nat) ^ 2 = 4 from rfl] at k2
  rw [show (2 : Nat) ^ 3 = 8 from rfl] at k3
  rw [show (2 : Nat) ^ 4 = 16 from rfl] at k4
  rw [show (2 : Nat) ^ 5 = 32 from rfl] at k5
  unfold hi
  repeat' split
  all_goals omega
end Go.Proofs.Ytdipgcbppggdhaa
namespace Go.Proofs.Ytdipgcbppggdhaa
set_option maxRecDepth 100000

/-- A live node that is reached. -/
inductive Rch (s : Ar) (roots : List Int) : Int → Prop
  | root {r : Int} : r ∈ roots → s.count r ≠ 0 → Rch s roots r
  | kid {x k : Int} : Rch s roots x → k ∈ (s.nd x.toNat).kids → s.count k ≠ 0 → Rch s roots k
section
variable {s : Ar} {roots : List Int}
theorem Rch.live {x : Int} (h : Rch s roots x) : s.count x ≠ 0 := by
  cases h <;> assumption
theorem Rch.mono {roots' : List Int} (hr : ∀ r, r ∈ roots → r ∈ roots') {x : Int} (h : Rch s roots x) : Rch s roots' x := by
  induction h with
  | root h1 h2 => exact .root (hr _ h1) h2
  | kid _ h2 h3 ih => exact .kid ih h2 h3
/-- While it is looked for: what is left to do, what was found. -/
structure Seek (s : Ar) (roots : List Int) (todo out : List Int) : Prop where
  nodup : out.Nodup
  sound : ∀ x, x ∈ out → Rch s roots x
  from_ : ∀ x, x ∈ todo → x ∈ roots ∨ ∃ y, Rch s roots y ∧ x ∈ (s.nd y.toNat).kids
  roots : ∀ r, r ∈ roots → s.count r ≠ 0 → r ∈ out ∨ r ∈ todo
  kids : ∀ x, x ∈ out → ∀ k, k ∈ (s.nd x.toNat).kids → s.count k ≠ 0 → k ∈ out ∨ k ∈ todo
theorem Seek.start (s : Ar) (roots : List Int) : Seek s roots roots [] :=
  ⟨List.nodup_nil, fun x h => (by cases h), fun x h => .inl h, fun r h _ => .inr h, fun x h => (by cases h)⟩
theorem Seek.skip {todo out : List Int} {h : Int} (hs : Seek s roots (todo ++ [h]) out) (hc : s.count h = 0 ∨ h ∈ out) : Seek s roots todo out := by
  have key : ∀ k, s.count k ≠ 0 → (k ∈ out ∨ k ∈ todo ++ [h]) → k ∈ out ∨ k ∈ todo := by
    intro k hk hh
    rcases hh with hh | hh
    · exact .inl hh
    · rcases List.mem_append.1 hh with hh | hh
      · exact .inr hh
      · have : k = h := by simpa using hh
        subst this
        rcases hc with hc | hc
        · exact absurd hc hk
        · exact .inl hc
  exact ⟨hs.nodup, hs.sound, fun x hx => hs.from_ x (List.mem_append_left _ hx), fun r h1 h2 => key r h2 (hs.roots r h1 h2), fun x h1 k h2 h3 => key k h3 (hs.kids x h1 k h2 h3)⟩
theorem Seek.take {todo out : List Int} {h : Int} (hs : Seek s roots (todo ++ [h]) out) (hc : s.count h ≠ 0) (hn : ¬ h ∈ out) : Seek s roots (todo ++ (s.nd h.toNat).kids) (out ++ [h]) := by
  have hr : Rch s roots h := by
    rcases hs.from_ h (by simp) with a | ⟨y, a, b⟩
    · exact .root a hc
    · exact .kid a b hc
  have key : ∀ k, (k ∈ out ∨ k ∈ todo ++ [h]) → k ∈ out ++ [h] ∨ k ∈ todo ++ (s.nd h.toNat).kids := by
    intro k hh
    simp only [List.mem_append, List.mem_singleton] at hh ⊢
    rcases hh with a | a | a
    · exact .inl (.inl a)
    · exact .inr (.inl a)
    · exact .inl (.inr a)
  refine ⟨?_, fun x hx => ?_, fun x hx => ?_, fun r h1 h2 => key r (hs.roots r h1 h2), fun x hx k hk hk2 => ?_⟩
  · rw [List.nodup_append]
    exact ⟨hs.nodup, by simp, fun a ha b hb => by rintro rfl; have : a = h := by simpa using hb
                                                  subst this; exact hn ha⟩
  · rcases List.mem_append.1 hx with hx | hx
    · exact hs.sound x hx
    · have : x = h := by simpa using hx
      subst this; exact hr
  · rcases List.mem_append.1 hx with hx | hx
    · exact hs.from_ x (List.mem_append_left _ hx)
    · exact .inr ⟨h, hr, hx⟩
  · rcases List.mem_append.1 hx with hx | hx
    · exact key k (hs.kids x hx k hk hk2)
    · have : x = h := by simpa using hx
      subst this
      exact .inr (List.mem_append_right _ hk)
theorem Seek.fin {out : List Int} (hs : Seek s roots [] out) (x : Int) : x ∈ out ↔ Rch s roots x := by
  refine ⟨hs.sound x, fun h => ?_⟩
  induction h with
  | root h1 h2 => exact (hs.roots _ h1 h2).resolve_right (by simp)
  | kid _ h2 h3 ih => exact (hs.kids _ ih _ h2 h3).resolve_right (by simp)
theorem Seek.len {todo out : List Int} (hs : Seek s roots todo out) : out.length ≤ s.n := nodup_len s.n out hs.nodup fun x hx => by
  have := count_pos (hs.sound x hx).live
  exact ⟨this.1, this.2.1⟩
end
/-- Ascending, each once. -/
def Asc (l : List Int) : Prop := l.Pairwise (· < ·)
theorem asc_sort {out : List Int} (h : out.Nodup) : Asc (out.mergeSort fun x y => decide (x ≤ y)) ∧ ∀ x, x ∈ (out.mergeSort fun x y => decide (x ≤ y)) ↔ x ∈ out := by
  have hp := List.mergeSort_perm out fun x y => decide (x ≤ y)
  refine ⟨?_, fun x => hp.mem_iff⟩
  have hs := List.pairwise_mergeSort (le := fun x y : Int => decide (x ≤ y)) (fun a b c h1 h2 => by simp at h1 h2 ⊢; omega) (fun a b => by simp; omega) out
  have hn : (out.mergeSort fun x y => decide (x ≤ y)).Nodup := hp.nodup_iff.2 h
  unfold Asc
  refine (hs.and hn).imp ?_
  rintro a b ⟨h1, h2⟩
  have h1' : a ≤ b := by simpa using h1
  have h2' : a ≠ b := h2
  omega
/-- Two ascending lists of the same numbers are one. -/
theorem asc_ext : ∀ {a b : List Int}, Asc a → Asc b → (∀ x, x ∈ a ↔ x ∈ b) → a = b
  | [], [], _, _, _ => rfl
  | [], y :: b, _, _, h => absurd ((h y).2 (by simp)) (by simp)
  | x :: a, [], _, _, h => absurd ((h x).1 (by simp)) (by simp)
  | x :: a, y :: b, ha, hb, h => by
    have ha' := List.pairwise_cons.1 ha
    have hb' := List.pairwise_cons.1 hb
    have e : x = y := by
      rcases List.mem_cons.1 ((h x).1 (by simp)) with e | e
      · exact e
      · rcases List.mem_cons.1 ((h y).2 (by simp)) with e2 | e2
        · exact e2.symm
        · have := hb'.1 x e
          have := ha'.1 y e2
          omega
    subst e
    rw [asc_ext ha'.2 hb'.2 fun z => ?_]
    have hz := h z
    simp only [List.mem_cons] at hz
    constructor
    · intro g
      rcases hz.1 (.inr g) with e | e
      · subst e; have := ha'.1 z g; omega
      · exact e
    · intro g
      rcases hz.2 (.inr g) with e | e
      · subst e; have := hb'.1 z g; omega
      · exact e
theorem Asc.nodup {a : List Int} (h : Asc a) : a.Nodup := List.Pairwise.imp (fun h => by omega) h
end Go.Proofs.Ytdipgcbppggdhaa
namespace Go.Proofs.Ytdipgcbppggdhaa
set_option maxRecDepth 100000

/-- The nodes of a row, from the root on. -/
def nods (s : Ar) : BT → Int → List Int
  | .nil, _ => []
  | .leaf _, h => [h]
  | .fork a b, h => h :: (nods s a (s.nd h.toNat).k0 ++ nods s b (s.nd h.toNat).k1)
theorem nods_len (s : Ar) : ∀ (t : BT) (h : Int), (nods s t h).length = t.nodes
  | .nil, _ => rfl
  | .leaf _, _ => rfl
  | .fork a b, h => by
    show (nods s a _ ++ nods s b _).length + 1 = 1 + a.nodes + b.nodes
    rw [List.length_append, nods_len s a, nods_len s b]
    omega
theorem nods_ext {s s' : Ar} (E : Ext s s') : ∀ {t : BT} {h : Int}, BRep s h t → nods s' t h = nods s t h
  | .nil, _, _ => rfl
  | .leaf _, _, _ => rfl
  | .fork a b, h, r => by
    obtain ⟨r1, r2, r3, k0, k1, r4, r5, r6⟩ := r
    have e := E.nd _ r3
    have e0 : (s.nd h.toNat).k0 = k0 := by rw [r4]; rfl
    have e1 : (s.nd h.toNat).k1 = k1 := by rw [r4]; rfl
    show h :: (nods s' a (s'.nd h.toNat).k0 ++ nods s' b (s'.nd h.toNat).k1) = h :: (nods s a (s.nd h.toNat).k0 ++ nods s b (s.nd h.toNat).k1)
    rw [e, e0, e1, nods_ext E r5, nods_ext E r6]
section
variable {s : Ar} {L : List Int}
theorem count_zero' (s : Ar) : s.count 0 = 0 := if_pos (.inl (by decide))
theorem nods_self {t : BT} {h : Int} (r : BRep s h t) (hc : s.count h ≠ 0) : h ∈ nods s t h := by
  cases t with
  | nil => obtain rfl : h = 0 := r; exact absurd (count_zero' s) hc
  | leaf l => exact List.mem_singleton.2 rfl
  | fork a b => exact List.mem_cons_self
theorem nods_kid : ∀ {t : BT} {h x k : Int}, BRep s h t → x ∈ nods s t h → k ∈ (s.nd x.toNat).kids → s.count k ≠ 0 → k ∈ nods s t h
  | .nil, _, _, _, _, hx, _, _ => by cases hx
  | .leaf l, h, x, k, r, hx, hk, hc => by
    obtain rfl : x = h := List.mem_singleton.1 hx
    obtain ⟨_, _, _, r4, _⟩ := r
    rw [r4] at hk
    have : k ∈ [(0 : Int), 0, 0, 0] := hk
    have : k = 0 := by simpa using this
    subst this
    exact absurd (count_zero' s) hc
  | .fork a b, h, x, k, r, hx, hk, hc => by
    obtain ⟨r1, r2, r3, k0, k1, r4, r5, r6⟩ := r
    have e0 : (s.nd h.toNat).k0 = k0 := by rw [r4]; rfl
    have e1 : (s.nd h.toNat).k1 = k1 := by rw [r4]; rfl
    have hx : x ∈ h :: (nods s a (s.nd h.toNat).k0 ++ nods s b (s.nd h.toNat).k1) := hx
    show k ∈ h :: (nods s a (s.nd h.toNat).k0 ++ nods s b (s.nd h.toNat).k1)
    rw [e0, e1] at hx ⊢
    rcases List.mem_cons.1 hx with rfl | hx
    · rw [r4] at hk
      have : k ∈ [k0, k1, 0, 0] := hk
      have : k = k0 ∨ k = k1 ∨ k = 0 := by simpa using this
      rcases this with rfl | rfl | rfl
      · exact List.mem_cons_of_mem _ (List.mem_append_left _ (nods_self r5 hc))
      · exact List.mem_cons_of_mem _ (List.mem_append_right _ (nods_self r6 hc))
      · exact absurd (count_zero' s) hc
    · rcases List.mem_append.1 hx with hx | hx
      · exact List.mem_cons_of_mem _ (List.mem_append_left _ (nods_kid r5 hx hk hc))
      · exact List.mem_cons_of_mem _ (List.mem_append_right _ (nods_kid r6 hx hk hc))
theorem rch_nods {t : BT} {h x : Int} (r : BRep s h t) (hx : Rch s [h] x) : x ∈ nods s t h := by
  induction hx with
  | root h1 h2 =>
    obtain rfl := List.mem_singleton.1 h1
    exact nods_self r h2
  | kid _ h2 h3 ih => exact nods_kid r ih h2 h3
theorem nods_rch (g : Gd s L) {R : List Int} : ∀ {t : BT} {h x : Int}, BRep s h t → Rch s R h → x ∈ nods s t h → Rch s R x
  | .nil, _, _, _, _, hx => by cases hx
  | .leaf l, h, x, _, hr, hx => by
    obtain rfl : x = h := List.mem_singleton.1 hx
    exact hr
  | .fork a b, h, x, r, hr, hx => by
    obtain ⟨r1, r2, r3, k0, k1, r4, r5, r6⟩ := r
    have e0 : (s.nd h.toNat).k0 = k0 := by rw [r4]; rfl
    have e1 : (s.nd h.toNat).k1 = k1 := by rw [r4]; rfl
    have hx : x ∈ h :: (nods s a (s.nd h.toNat).k0 ++ nods s b (s.nd h.toNat).k1) := hx
    rw [e0, e1] at hx
    have hk : (s.nd h.toNat).kids = [k0, k1, 0, 0] := by rw [r4]; rfl
    rcases List.mem_cons.1 hx with rfl | hx
    · exact hr
    · rcases List.mem_append.1 hx with hx | hx
      · refine nods_rch g r5 (.kid hr (by rw [hk]; simp) ?_) hx
        have p : 1 ≤ k0 := r5.pos (by cases a with | nil => cases hx | leaf _ => rfl | fork _ _ => rfl)
        exact (g.kid r1 r2 r3 (k := k0) (by rw [hk]; simp) p).2
      · refine nods_rch g r6 (.kid hr (by rw [hk]; simp) ?_) hx
        have p : 1 ≤ k1 := r6.pos (by cases b with | nil => cases hx | leaf _ => rfl | fork _ _ => rfl)
        exact (g.kid r1 r2 r3 (k := k1) (by rw [hk]; simp) p).2
/-- What is reached from a row that somebody has is its nodes. -/
theorem row_rch (g : Gd s L) {t : BT} {h : Int} (r : BRep s h t) (hm : h = 0 ∨ h ∈ L) (x : Int) : Rch s [h] x ↔ x ∈ nods s t h := by
  refine ⟨rch_nods r, fun hx => ?_⟩
  have p : 1 ≤ h := r.pos (by cases t with | nil => cases hx | leaf _ => rfl | fork _ _ => rfl)
  refine nods_rch g r (.root List.mem_cons_self ?_) hx
  rcases hm with rfl | hm
  · omega
  · exact g.live p r.range.2 hm
theorem rch_any {R : List Int} {x : Int} (h : Rch s R x) : ∃ r, r ∈ R ∧ Rch s [r] x := by
  induction h with
  | root h1 h2 => exact ⟨_, h1, .root List.mem_cons_self h2⟩
  | kid _ h2 h3 ih =>
    obtain ⟨r, a, b⟩ := ih
    exact ⟨r, a, .kid b h2 h3⟩
end
theorem nodup_sub : ∀ {a b : List Int}, a.Nodup → (∀ x, x ∈ a → x ∈ b) → a.length ≤ b.length
  | [], _, _, _ => Nat.zero_le _
  | x :: a, b, hn, h => by
    obtain ⟨h1, h2⟩ := List.nodup_cons.1 hn
    have hx : x ∈ b := h x List.mem_cons_self
    have := nodup_sub (b := b.erase x) h2 fun y hy => by
      have ne : y ≠ x := by rintro rfl; exact h1 hy
      exact (List.mem_erase_of_ne ne).2 (h y (List.mem_cons_of_mem _ hy))
    rw [List.length_erase_of_mem hx] at this
    have := List.length_pos_of_mem hx
    simp only [List.length_cons]
    omega
/-- The used ones. -/
def usedL (s : Ar) : List Int := ((List.range s.n).filter fun i => s.u (i + 1)).map fun (i : Nat) => ((i + 1 : Nat) : Int)
theorem usedL_len (s : Ar) : (usedL s).length = usedN s.n s.u := by unfold usedL usedN; rw [List.length_map]
theorem usedL_mem {s : Ar} {x : Int} : x ∈ usedL s ↔ 1 ≤ x ∧ x ≤ s.n ∧ s.u x.toNat = true := by
  unfold usedL
  rw [List.mem_map]
  constructor
  · rintro ⟨i, hi, rfl⟩
    obtain ⟨h1, h2⟩ := List.mem_filter.1 hi
    have := List.mem_range.1 h1
    refine ⟨by omega, by omega, ?_⟩
    rw [show ((i + 1 : Nat) : Int).toNat = i + 1 by omega]
    exact h2
  · rintro ⟨h1, h2, h3⟩
    refine ⟨x.toNat - 1, List.mem_filter.2 ⟨List.mem_range.2 (by omega), ?_⟩, by omega⟩
    rw [show x.toNat - 1 + 1 = x.toNat by omega]
    exact h3
theorem usedL_nodup (s : Ar) : (usedL s).Nodup := by
  unfold usedL List.Nodup
  rw [List.pairwise_map]
  exact (List.nodup_range.filter _).imp fun h => by omega
section
variable {s : Ar} {L : List Int}
theorem Gd.busy_is (g : Gd s L) : s.busy = ((usedL s).length : Int) := by
  obtain ⟨B, h⟩ := g.ok
  rw [h.busy, usedL_len]
theorem Gd.used (g : Gd s L) {x : Int} (h : s.count x ≠ 0) : x ∈ usedL s := by
  obtain ⟨B, k⟩ := g.ok
  obtain ⟨h1, h2, h3⟩ := count_pos h
  refine usedL_mem.2 ⟨h1, h2, ?_⟩
  cases hu : s.u x.toNat
  · exact absurd (h3.trans (k.fr _ hu)) h
  · rfl
/-- Whatever is reached is used. -/
theorem reach_busy (g : Gd s L) {R ys : List Int} (ha : Asc ys) (hy : ∀ x, x ∈ ys ↔ Rch s R x) : (ys.length : Int) ≤ s.busy := by
  rw [g.busy_is]
  have := nodup_sub ha.nodup fun x hx => g.used ((hy x).1 hx).live
  omega
/-- Where none waits, whoever is used is reached from what somebody has. -/
theorem used_reached (g : Gd s L) (hw : s.wt = []) {x : Int} (hx : x ∈ usedL s) : Rch s L x := by
  obtain ⟨ρ, hρ⟩ := g.led.rank
  obtain ⟨B, ok⟩ := g.ok
  have acc := g.acc
  have nz : ∀ j, s.u j = true → s.c j ≠ 0 := fun j hj hc => by
    have := g.led.wts j hj hc
    rw [hw] at this
    cases this
  have main : ∀ d (i : Nat), topN s.n ρ ≤ ρ i + d → s.u i = true → Rch s L (i : Int) := by
    intro d
    induction d with
    | zero =>
      intro i hd hi
      obtain ⟨i1, i2⟩ := acc.nz i hi
      have := topN_lt (f := ρ) (n := s.n) (h := i) (by omega) (by omega)
      omega
    | succ d ih =>
      intro i hd hi
      obtain ⟨i1, i2⟩ := acc.nz i hi
      have he := acc.eq i i1 i2
      have hci := nz i hi
      have hcnt : s.count (i : Int) ≠ 0 := by
        unfold Ar.count
        rw [if_neg (by omega)]
        simpa using hci
      by_cases hh : cnt L i = 0
      · have hc := (ok.c i).1
        obtain ⟨j, j1, j2, j3⟩ := sumN_pos (n := s.n) (f := ctr s i) (by show 1 ≤ refs s i; omega)
        unfold ctr at j3
        cases hj : s.u j
        · rw [hj] at j3; simp at j3
        · rw [hj, if_pos rfl] at j3
          have hk : (i : Int) ∈ (s.nd j).kids := List.count_pos_iff.1 j3
          have hlt := hρ j hj i hk (by omega)
          have hlt' : ρ i < ρ j := by simpa using hlt
          exact .kid (ih j (by omega) hj) (by simpa using hk) hcnt
      · exact .root (List.count_pos_iff.1 (Nat.pos_of_ne_zero hh)) hcnt
  obtain ⟨x1, x2, x3⟩ := usedL_mem.1 hx
  have := main (topN s.n ρ) x.toNat (by omega) x3
  rwa [show ((x.toNat : Nat) : Int) = x by omega] at this
/-- Where none waits as many are used as are reached. -/
theorem busy_reach (g : Gd s L) (hw : s.wt = []) {R ys : List Int} (hR : ∀ x, Rch s L x → Rch s R x) (ha : Asc ys) (hy : ∀ x, x ∈ ys ↔ Rch s R x) : (ys.length : Int) = s.busy := by
  have h1 := reach_busy g ha hy
  rw [g.busy_is] at h1 ⊢
  have := nodup_sub (usedL_nodup s) fun x hx => (hy x).2 (hR x (used_reached g hw hx))
  omega
/-- A row has no more nodes than its length says. -/
theorem reach_row {t : BT} {h : Int} (r : BRep s h t) {ys : List Int} (ha : Asc ys) (hy : ∀ x, x ∈ ys ↔ Rch s [h] x) : ys.length ≤ t.nodes := by
  rw [← nods_len s t h]
  exact nodup_sub ha.nodup fun x hx => rch_nods r ((hy x).1 hx)
end
end Go.Proofs.Ytdipgcbppggdhaa
