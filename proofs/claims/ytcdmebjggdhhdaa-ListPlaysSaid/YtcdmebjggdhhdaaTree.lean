/- Plain lists as trees: how an arena holds one; join and change as on trees. -/
import Derived.Test.YtcdmebjggdhhdaaAcc
namespace Go.Proofs.Ytcdmebjggdhhdaa

inductive Tr where
  | nil
  | item (a b : Int)
  | join (l r : Tr)

def Tr.len : Tr → Nat
  | .nil => 0
  | .item _ _ => 1
  | .join l r => l.len + r.len
def Tr.list : Tr → List (Int × Int)
  | .nil => []
  | .item a b => [(a, b)]
  | .join l r => l.list ++ r.list
def Tr.high : Tr → Nat
  | .nil => 0
  | .item _ _ => 1
  | .join l r => 1 + max l.high r.high
/-- Balanced, and with no empty list inside. -/
def Tr.Bal : Tr → Prop
  | .nil => False
  | .item _ _ => True
  | .join l r => l.Bal ∧ r.Bal ∧ l.high ≤ r.high + 1 ∧ r.high ≤ l.high + 1
def Tr.Fine (t : Tr) : Prop := t = .nil ∨ t.Bal

theorem Tr.len_list : ∀ t : Tr, t.list.length = t.len
  | .nil => rfl
  | .item _ _ => rfl
  | .join l r => by simp [Tr.list, Tr.len, Tr.len_list l, Tr.len_list r]
theorem Tr.Bal.high {t : Tr} (h : t.Bal) : 1 ≤ t.high := by
  cases t with
  | nil => exact h.elim
  | item a b => exact Nat.le_refl _
  | join l r => unfold Tr.high; omega
theorem Tr.Bal.len {t : Tr} (h : t.Bal) : 1 ≤ t.len := by
  induction t with
  | nil => exact h.elim
  | item a b => exact Nat.le_refl _
  | join l r il ir => have := il h.1; unfold Tr.len; omega

/-- The arena s holds the tree at handle h. -/
def Rep (s : Ar) : Int → Tr → Prop
  | h, .nil => h = 0
  | h, .item a b => 1 ≤ h ∧ h ≤ s.n ∧ s.u h.toNat = true ∧ s.nd h.toNat = ⟨4, 0, 0, 0, 0, a, b⟩
  | h, .join l r => 1 ≤ h ∧ h ≤ s.n ∧ s.u h.toNat = true ∧ ∃ k0 k1, s.nd h.toNat = ⟨5, k0, k1, 0, 0, ((l.len + r.len : Nat) : Int), 0⟩ ∧ Rep s k0 l ∧ Rep s k1 r

/-- What is used stays as it is. -/
structure Ext (s t : Ar) : Prop where
  n : t.n = s.n
  u : ∀ h, s.u h = true → t.u h = true
  nd : ∀ h, s.u h = true → t.nd h = s.nd h
theorem Ext.refl (s : Ar) : Ext s s := ⟨rfl, fun _ h => h, fun _ _ => rfl⟩
theorem Ext.trans {a b c : Ar} (h : Ext a b) (k : Ext b c) : Ext a c := ⟨k.n.trans h.n, fun j hj => k.u j (h.u j hj), fun j hj => (k.nd j (h.u j hj)).trans (h.nd j hj)⟩
theorem Rep.ext {s t : Ar} (e : Ext s t) : ∀ {x : Tr} {h : Int}, Rep s h x → Rep t h x
  | .nil, _, r => r
  | .item a b, h, ⟨r1, r2, r3, r4⟩ => ⟨r1, by rw [e.n]; exact r2, e.u _ r3, (e.nd _ r3).trans r4⟩
  | .join l r, h, ⟨r1, r2, r3, k0, k1, r4, r5, r6⟩ => ⟨r1, by rw [e.n]; exact r2, e.u _ r3, k0, k1, (e.nd _ r3).trans r4, Rep.ext e r5, Rep.ext e r6⟩
theorem ext_keep (s : Ar) (i : Int) : Ext s (s.keep i).1 := by
  unfold Ar.keep
  split
  · exact Ext.refl s
  · exact ⟨rfl, fun _ h => h, fun _ _ => rfl⟩
theorem ext_drop (s : Ar) (i : Int) : Ext s (s.drop i).1 := ⟨drop_n s i, fun h hu => by rw [drop_u]; exact hu, fun h _ => by rw [drop_nd]⟩
theorem ext_put {s : Ar} (x : Nd) (hf : s.free ≠ 0) : Ext s (s.put s.free x) := by
  have f3 := free_unused hf
  have ne : ∀ h, s.u h = true → h ≠ s.free := fun h hu e => by rw [e, f3] at hu; cases hu
  exact ⟨rfl, fun h hu => (upd_ne _ _ (ne h hu)).trans hu, fun h hu => upd_ne _ _ (ne h hu)⟩

/-- An arena whose counts are told: L is what the caller has, each as often as it has it. -/
structure Good (s : Ar) (B : Int) (L : List Int) : Prop where
  ok : s.Ok B
  acc : Acc s (cnt L)
theorem Good.mono {s : Ar} {B B' : Int} {L : List Int} (h : Good s B L) (hB : B ≤ B') : Good s B' L := ⟨h.ok.mono hB, h.acc⟩
theorem cnt_cons (x : Int) (L : List Int) (k : Nat) : cnt (x :: L) k = cnt L k + if x = (k : Int) then 1 else 0 := by
  unfold cnt
  rw [List.count_cons]
  by_cases e : x = (k : Int)
  · rw [if_pos e, if_pos (by simpa using e)]
  · rw [if_neg e, if_neg (by simpa using e)]
theorem Good.perm {s : Ar} {B : Int} {L L' : List Int} (h : Good s B L) (e : ∀ k, 1 ≤ k → cnt L' k = cnt L k) : Good s B L' := ⟨h.ok, h.acc.congr e⟩
theorem Good.swap {s : Ar} {B : Int} {L : List Int} {x y : Int} (h : Good s B (x :: y :: L)) : Good s B (y :: x :: L) := h.perm fun k _ => by simp only [cnt_cons]; omega
theorem Good.unzero {s : Ar} {B : Int} {L : List Int} (h : Good s B (0 :: L)) : Good s B L := h.perm fun k hk => by rw [cnt_cons, if_neg (by omega)]; rfl
theorem Good.zero {s : Ar} {B : Int} {L : List Int} (h : Good s B L) : Good s B (0 :: L) := h.perm fun k hk => by rw [cnt_cons, if_neg (by omega)]; rfl

/-- What is had is live. -/
theorem Good.live {s : Ar} {B : Int} {L : List Int} (g : Good s B L) {h : Int} (h1 : 1 ≤ h) (h2 : h ≤ s.n) (hH : h ∈ L) : s.count h ≠ 0 := by
  have := g.acc.eq h.toNat (by omega) (by omega)
  have hc : 1 ≤ cnt L h.toNat := by
    unfold cnt
    rw [show ((h.toNat : Nat) : Int) = h by omega]
    exact List.count_pos_iff.2 hH
  unfold Ar.count
  rw [if_neg (by omega)]
  omega
/-- A kid of what is used is live. -/
theorem Good.kid {s : Ar} {B : Int} {L : List Int} (g : Good s B L) {h k : Int} (h1 : 1 ≤ h) (h2 : h ≤ s.n) (hu : s.u h.toNat = true) (hk : k ∈ (s.nd h.toNat).kids) (k1 : 1 ≤ k) : k ≤ s.n ∧ s.count k ≠ 0 := by
  have hn := (g.acc.kids _ hu k hk).2
  refine ⟨hn, ?_⟩
  have e := g.acc.eq k.toNat (by omega) (by omega)
  have hr : 1 ≤ refs s k.toNat := by
    have hle := sumN_le (n := s.n) (f := ctr s k.toNat) (h := h.toNat) (by omega) (by omega)
    have hc : 1 ≤ ctr s k.toNat h.toNat := by
      unfold ctr
      rw [hu, if_pos rfl, show ((k.toNat : Nat) : Int) = k by omega]
      exact List.count_pos_iff.2 hk
    unfold refs
    omega
  unfold Ar.count
  rw [if_neg (by omega)]
  omega
theorem good_new {n : Nat} (h1 : 1 ≤ n) (h2 : n ≤ 6000) : Good (Ar.new n) 0 [] := ⟨ok_new h1 h2, (acc_new n).congr fun k _ => by simp [cnt]⟩
theorem good_keep {s : Ar} {B : Int} {L : List Int} (g : Good s B L) {i : Int} (hi : s.count i ≠ 0) : (s.keep i).2 = 0 ∧ Good (s.keep i).1 (B + 1) (i :: L) := by
  obtain ⟨i1, i2, e⟩ := count_pos hi
  refine ⟨by unfold Ar.keep; rw [if_neg hi], ok_keep g.ok i, (acc_keep g.acc hi).congr fun k k1 => ?_⟩
  rw [cnt_cons]
  by_cases e : k = i.toNat
  · subst e; rw [upd_same, if_pos (by omega)]
  · rw [upd_ne _ _ e, if_neg (by omega)]; rfl
theorem good_drop {s : Ar} {B : Int} {L : List Int} {i : Int} (g : Good s B (i :: L)) (i0 : 0 ≤ i) (i2 : i ≤ s.n) : Good (s.drop i).1 B L := by
  by_cases z : i = 0
  · subst z
    rw [drop_zero]
    exact g.unzero
  · obtain ⟨_, h⟩ := acc_drop g.acc (i := i) (by omega) i2 (by rw [cnt_cons, if_pos (by omega)]; omega)
    refine ⟨ok_drop g.ok i, h.congr fun k k1 => ?_⟩
    by_cases e : k = i.toNat
    · subst e; rw [upd_same, cnt_cons, if_pos (by omega)]; rfl
    · rw [upd_ne _ _ e, cnt_cons, if_neg (by omega)]; rfl
theorem drop_ok {s : Ar} {B : Int} {L : List Int} {i : Int} (g : Good s B (i :: L)) (i0 : 1 ≤ i) (i2 : i ≤ s.n) : (s.drop i).2 = 0 := by
  unfold Ar.drop
  rw [if_neg (g.live i0 i2 (by simp))]
theorem good_work {s : Ar} {B : Int} {L : List Int} (g : Good s B L) (m : Nat) : Good (s.work m).1 B L := by
  have h0 := g.acc.congr (H' := fun k => if k = 0 then 0 else cnt L k) fun k hk => if_neg (by omega)
  exact ⟨ok_work m g.ok, (acc_work (H := fun k => if k = 0 then 0 else cnt L k) (if_pos rfl) m h0 g.ok).congr fun k hk => by show cnt L k = if k = 0 then 0 else cnt L k; rw [if_neg (by omega)]⟩
theorem free_of_room {s : Ar} {B : Int} (ok : s.Ok B) (h : s.busy < s.n) : s.free ≠ 0 := by
  intro e
  have hall : ∀ (d h : Nat), s.freeFrom d h = 0 → 1 ≤ h → ∀ j, h ≤ j → j < h + d → s.u j = true := by
    intro d
    induction d with
    | zero => intro h _ _ j h1 h2; omega
    | succ d ih =>
      intro h hz h0 j h1 h2
      simp only [Ar.freeFrom] at hz
      by_cases hu : s.u h = true
      · rw [if_pos hu] at hz
        by_cases e : j = h
        · subst e; exact hu
        · exact ih (h + 1) hz (by omega) j (by omega) (by omega)
      · rw [if_neg hu] at hz; omega
  have hu := hall s.n 1 e (Nat.le_refl _)
  have hc : usedN s.n s.u = s.n := by
    have : usedN s.n s.u = usedN s.n fun _ => true := usedN_congr fun i h1 h2 => hu i h1 (by omega)
    rw [this]
    unfold usedN
    rw [List.filter_eq_self.2 (by simp), List.length_range]
  have := ok.busy
  omega
/-- A node is made of kids that are live. -/
theorem good_make {s : Ar} {B : Int} {L : List Int} (g : Good s B L) {x : Nd} (ht : 1 ≤ x.tag ∧ x.tag ≤ 6) (hk : ∀ y, y ∈ x.kids → y = 0 ∨ s.count y ≠ 0) (hr : s.busy < s.n) :
    ∃ h : Nat, s.make x = (s.put h x, (h : Int), 0) ∧ Good (s.put h x) (B + 4) ((h : Int) :: L) ∧ Ext s (s.put h x) ∧ 1 ≤ h ∧ h ≤ s.n ∧ (s.put h x).u h = true ∧ (s.put h x).nd h = x ∧ (s.put h x).busy = s.busy + 1 := by
  have hf := free_of_room g.ok hr
  obtain ⟨f1, f2⟩ := free_in hf
  have hb : x.kids.any s.bad = false := by
    rw [List.any_eq_false]
    intro y hy hb
    obtain ⟨a, b⟩ := bad_iff.1 hb
    rcases hk y hy with e | e
    · exact a e
    · exact e b
  refine ⟨s.free, ?_, ⟨ok_put g.ok hb hf, (acc_put g.acc g.ok hb hf).congr fun k k1 => ?_⟩, ext_put x hf, f1, f2, upd_same _ _ _, upd_same _ _ _, rfl⟩
  · unfold Ar.make
    rw [if_neg (by omega), if_neg (by rw [hb]; decide), if_neg hf]
  · rw [cnt_cons]
    by_cases e : k = s.free
    · subst e; rw [upd_same, if_pos rfl]
    · rw [upd_ne _ _ e, if_neg (by omega)]; rfl

def Tr.isNil : Tr → Bool
  | .nil => true
  | _ => false
theorem Tr.Bal.some {t : Tr} (h : t.Bal) : t.isNil = false := by
  cases t with
  | nil => exact h.elim
  | item a b => rfl
  | join l r => rfl
def rotL (x y : Tr) : Tr :=
  match x with
  | .join u v => if v.high ≤ u.high then .join u (.join v y) else
    match v with
    | .join b c => .join (.join u b) (.join c y)
    | _ => .join x y
  | _ => .join x y
def rotR (x y : Tr) : Tr :=
  match y with
  | .join u v => if u.high ≤ v.high then .join (.join x u) v else
    match u with
    | .join b c => .join (.join x b) (.join c v)
    | _ => .join x y
  | _ => .join x y
/-- Two lists that differ by two at most, joined again in balance. -/
def tjoin (x y : Tr) : Tr :=
  if x.isNil = true then y
  else if y.isNil = true then x
  else if y.high + 1 < x.high then rotL x y
  else if x.high + 1 < y.high then rotR x y
  else .join x y

theorem tjoin_nil_left (y : Tr) : tjoin .nil y = y := rfl
theorem tjoin_nil_right (x : Tr) : tjoin x .nil = x := by
  unfold tjoin
  cases x <;> rfl
theorem tjoin_even {x y : Tr} (hx : x.Bal) (hy : y.Bal) (h1 : x.high ≤ y.high + 1) (h2 : y.high ≤ x.high + 1) : tjoin x y = .join x y := by
  unfold tjoin
  rw [if_neg (by rw [hx.some]; decide), if_neg (by rw [hy.some]; decide), if_neg (by omega), if_neg (by omega)]
/-- The left one is higher by two. -/
theorem tjoin_left {x y : Tr} (hx : x.Bal) (hy : y.Bal) (h : x.high = y.high + 2) :
    (∃ u v, x = .join u v ∧ v.high ≤ u.high ∧ tjoin x y = .join u (.join v y)) ∨ (∃ u b c, x = .join u (.join b c) ∧ u.high < (Tr.join b c).high ∧ tjoin x y = .join (.join u b) (.join c y)) := by
  have hy1 := hy.high
  have e : tjoin x y = rotL x y := by
    unfold tjoin
    rw [if_neg (by rw [hx.some]; decide), if_neg (by rw [hy.some]; decide), if_pos (by omega)]
  rw [e]
  cases x with
  | nil => exact hx.elim
  | item a b => have e1 : (Tr.item a b).high = 1 := rfl; omega
  | join u v =>
    by_cases g : v.high ≤ u.high
    · exact .inl ⟨u, v, rfl, g, if_pos g⟩
    · right
      cases v with
      | nil => exact hx.2.1.elim
      | item a b => have := hx.1.high; have e1 : (Tr.item a b).high = 1 := rfl; omega
      | join b c => exact ⟨u, b, c, rfl, by omega, if_neg g⟩
/-- The right one is higher by two. -/
theorem tjoin_right {x y : Tr} (hx : x.Bal) (hy : y.Bal) (h : y.high = x.high + 2) :
    (∃ u v, y = .join u v ∧ u.high ≤ v.high ∧ tjoin x y = .join (.join x u) v) ∨ (∃ b c v, y = .join (.join b c) v ∧ v.high < (Tr.join b c).high ∧ tjoin x y = .join (.join x b) (.join c v)) := by
  have hx1 := hx.high
  have e : tjoin x y = rotR x y := by
    unfold tjoin
    rw [if_neg (by rw [hx.some]; decide), if_neg (by rw [hy.some]; decide), if_neg (by omega), if_pos (by omega)]
  rw [e]
  cases y with
  | nil => exact hy.elim
  | item a b => have e1 : (Tr.item a b).high = 1 := rfl; omega
  | join u v =>
    by_cases g : u.high ≤ v.high
    · exact .inl ⟨u, v, rfl, g, if_pos g⟩
    · right
      cases u with
      | nil => exact hy.1.elim
      | item a b => have := hy.2.1.high; have e1 : (Tr.item a b).high = 1 := rfl; omega
      | join b c => exact ⟨b, c, v, rfl, by omega, if_neg g⟩

/-- What tjoin gives. -/
structure Joined (x y z : Tr) : Prop where
  bal : z.Bal
  list : z.list = x.list ++ y.list
  lo : max x.high y.high ≤ z.high
  hi : z.high ≤ max x.high y.high + 1
  even : x.high ≤ y.high + 1 → y.high ≤ x.high + 1 → z.high = max x.high y.high + 1
theorem tjoin_is {x y : Tr} (hx : x.Bal) (hy : y.Bal) (h1 : x.high ≤ y.high + 2) (h2 : y.high ≤ x.high + 2) : Joined x y (tjoin x y) := by
  by_cases a : x.high ≤ y.high + 1
  · by_cases b : y.high ≤ x.high + 1
    · rw [tjoin_even hx hy a b]
      exact ⟨⟨hx, hy, a, b⟩, rfl, by show max x.high y.high ≤ 1 + max x.high y.high; omega, by show 1 + max x.high y.high ≤ _; omega, fun _ _ => by show 1 + max x.high y.high = _; omega⟩
    · rcases tjoin_right hx hy (by omega) with ⟨u, v, rfl, g, e⟩ | ⟨b', c, v, rfl, g, e⟩
      · rw [e]
        obtain ⟨u1, v1, g1, g2⟩ := hy
        have hh : (Tr.join u v).high = 1 + max u.high v.high := rfl
        refine ⟨⟨⟨hx, u1, ?_, ?_⟩, v1, ?_, ?_⟩, by simp [Tr.list], ?_, ?_, fun _ _ => by omega⟩ <;> simp only [Tr.high] at * <;> omega
      · rw [e]
        obtain ⟨⟨b1, c1, g3, g4⟩, v1, g1, g2⟩ := hy
        refine ⟨⟨⟨hx, b1, ?_, ?_⟩, ⟨c1, v1, ?_, ?_⟩, ?_, ?_⟩, by simp [Tr.list], ?_, ?_, fun _ _ => by omega⟩ <;> simp only [Tr.high] at * <;> omega
  · rcases tjoin_left hx hy (by omega) with ⟨u, v, rfl, g, e⟩ | ⟨u, b', c, rfl, g, e⟩
    · rw [e]
      obtain ⟨u1, v1, g1, g2⟩ := hx
      refine ⟨⟨u1, ⟨v1, hy, ?_, ?_⟩, ?_, ?_⟩, by simp [Tr.list], ?_, ?_, fun _ _ => by omega⟩ <;> simp only [Tr.high] at * <;> omega
    · rw [e]
      obtain ⟨u1, ⟨b1, c1, g3, g4⟩, g1, g2⟩ := hx
      refine ⟨⟨⟨u1, b1, ?_, ?_⟩, ⟨c1, hy, ?_, ?_⟩, ?_, ?_⟩, by simp [Tr.list], ?_, ?_, fun _ _ => by omega⟩ <;> simp only [Tr.high] at * <;> omega

/-- A list of which one place is another list, or none. -/
def tchange (f : Tr → Tr) : Tr → Nat → Tr
  | .nil, _ => f .nil
  | .item a b, _ => f (.item a b)
  | .join l r, i => if l.len ≤ i then tjoin l (tchange f r (i - l.len)) else tjoin (tchange f l i) r

/-- One more, or the same. -/
theorem tchange_grows {f : Tr → Tr} (hf : ∀ a b, (f (.item a b)).Bal ∧ (f (.item a b)).high ≤ 2) : ∀ (t : Tr) (i : Nat), t.Bal → (tchange f t i).Bal ∧ t.high ≤ (tchange f t i).high ∧ (tchange f t i).high ≤ t.high + 1
  | .nil, _, h => h.elim
  | .item a b, i, _ => ⟨(hf a b).1, (hf a b).1.high, (hf a b).2⟩
  | .join l r, i, h => by
    obtain ⟨hl, hr, g1, g2⟩ := h
    unfold tchange
    by_cases g : l.len ≤ i
    · rw [if_pos g]
      obtain ⟨b1, b2, b3⟩ := tchange_grows hf r (i - l.len) hr
      have j := tjoin_is hl b1 (by omega) (by omega)
      refine ⟨j.bal, ?_, ?_⟩
      · show 1 + max l.high r.high ≤ _
        by_cases e : (tchange f r (i - l.len)).high ≤ l.high + 1
        · have := j.even (by omega) e; omega
        · have := j.lo; omega
      · show _ ≤ 1 + max l.high r.high + 1
        have := j.hi; omega
    · rw [if_neg g]
      obtain ⟨b1, b2, b3⟩ := tchange_grows hf l i hl
      have j := tjoin_is b1 hr (by omega) (by omega)
      refine ⟨j.bal, ?_, ?_⟩
      · show 1 + max l.high r.high ≤ _
        by_cases e : (tchange f l i).high ≤ r.high + 1
        · have := j.even e (by omega); omega
        · have := j.lo; omega
      · show _ ≤ 1 + max l.high r.high + 1
        have := j.hi; omega
/-- One less, or the same. -/
theorem tchange_shrinks {f : Tr → Tr} (hf : ∀ a b, f (.item a b) = .nil ∨ (f (.item a b)).Bal ∧ (f (.item a b)).high = 1) : ∀ (t : Tr) (i : Nat), t.Bal → (tchange f t i).Fine ∧ t.high ≤ (tchange f t i).high + 1 ∧ (tchange f t i).high ≤ t.high
  | .nil, _, h => h.elim
  | .item a b, i, _ => by
    unfold tchange
    rcases hf a b with e | ⟨e, g⟩
    · rw [e]; exact ⟨.inl rfl, Nat.le_refl _, Nat.zero_le _⟩
    · exact ⟨.inr e, by rw [g]; exact Nat.le_add_right _ _, by rw [g]; exact Nat.le_refl _⟩
  | .join l r, i, h => by
    obtain ⟨hl, hr, g1, g2⟩ := h
    have h1 := hl.high
    have h2 := hr.high
    unfold tchange
    by_cases g : l.len ≤ i
    · rw [if_pos g]
      obtain ⟨b1, b2, b3⟩ := tchange_shrinks hf r (i - l.len) hr
      rcases b1 with e | b1
      · rw [e] at b2 b3 ⊢
        rw [tjoin_nil_right]
        have e0 : Tr.nil.high = 0 := rfl
        refine ⟨.inr hl, ?_, ?_⟩
        · show 1 + max l.high r.high ≤ _; omega
        · show _ ≤ 1 + max l.high r.high; omega
      · have j := tjoin_is hl b1 (by omega) (by omega)
        refine ⟨.inr j.bal, ?_, ?_⟩
        · show 1 + max l.high r.high ≤ _
          by_cases e : l.high ≤ (tchange f r (i - l.len)).high + 1
          · have := j.even e (by omega); omega
          · have := j.lo; omega
        · show _ ≤ 1 + max l.high r.high
          have := j.hi; omega
    · rw [if_neg g]
      obtain ⟨b1, b2, b3⟩ := tchange_shrinks hf l i hl
      rcases b1 with e | b1
      · rw [e] at b2 b3 ⊢
        rw [tjoin_nil_left]
        have e0 : Tr.nil.high = 0 := rfl
        refine ⟨.inr hr, ?_, ?_⟩
        · show 1 + max l.high r.high ≤ _; omega
        · show _ ≤ 1 + max l.high r.high; omega
      · have j := tjoin_is b1 hr (by omega) (by omega)
        refine ⟨.inr j.bal, ?_, ?_⟩
        · show 1 + max l.high r.high ≤ _
          by_cases e : r.high ≤ (tchange f l i).high + 1
          · have := j.even (by omega) e; omega
          · have := j.lo; omega
        · show _ ≤ 1 + max l.high r.high
          have := j.hi; omega

/-- The least length of a list that is so high. -/
def fibL : Nat → Nat
  | 0 => 0
  | 1 => 1
  | n + 2 => match n with
    | 0 => 2
    | m + 1 => fibL (m + 2) + fibL (m + 1)
theorem fibL_step (m : Nat) : fibL (m + 3) = fibL (m + 2) + fibL (m + 1) := rfl
theorem fibL_mono : ∀ m, fibL m ≤ fibL (m + 1)
  | 0 => by decide
  | 1 => by decide
  | m + 2 => by rw [fibL_step]; omega
theorem fibL_le {a b : Nat} (h : a ≤ b) : fibL a ≤ fibL b := by
  induction h with
  | refl => exact Nat.le_refl _
  | step _ ih => exact Nat.le_trans ih (fibL_mono _)
theorem Tr.Bal.fib {t : Tr} (h : t.Bal) : fibL t.high ≤ t.len := by
  induction t with
  | nil => exact h.elim
  | item a b => exact Nat.le_refl _
  | join l r il ir =>
    obtain ⟨hl, hr, g1, g2⟩ := h
    have a1 := il hl
    have a2 := ir hr
    have l1 := hl.high
    have r1 := hr.high
    show fibL (1 + max l.high r.high) ≤ l.len + r.len
    by_cases e : 1 + max l.high r.high = 2
    · rw [e]
      have := hl.len
      have := hr.len
      show 2 ≤ _
      omega
    · obtain ⟨m, hm⟩ : ∃ m, 1 + max l.high r.high = m + 3 := ⟨max l.high r.high - 2, by omega⟩
      rw [hm, fibL_step]
      by_cases c : r.high ≤ l.high
      · have e1 : l.high = m + 2 := by omega
        have e2 : fibL (m + 1) ≤ fibL r.high := fibL_le (by omega)
        rw [e1] at a1
        omega
      · have e1 : r.high = m + 2 := by omega
        have e2 : fibL (m + 1) ≤ fibL l.high := fibL_le (by omega)
        rw [e1] at a2
        omega

theorem tjoin_list (x y : Tr) : (tjoin x y).list = x.list ++ y.list := by
  unfold tjoin
  split
  · cases x <;> simp_all [Tr.isNil, Tr.list]
  · split
    · cases y <;> simp_all [Tr.isNil, Tr.list]
    · split
      · unfold rotL
        cases x with
        | nil => rfl
        | item a b => rfl
        | join u v =>
          simp only
          split
          · simp [Tr.list]
          · cases v <;> simp [Tr.list]
      · split
        · unfold rotR
          cases y with
          | nil => rfl
          | item a b => rfl
          | join u v =>
            simp only
            split
            · simp [Tr.list]
            · cases u <;> simp [Tr.list]
        · rfl
/-- The items behind a change: what is put where item i was. -/
theorem tchange_list (f : Tr → Tr) (g : Int × Int → List (Int × Int)) (hf : ∀ a b, (f (.item a b)).list = g (a, b)) : ∀ (t : Tr) (i : Nat), t.Bal → i < t.len →
    (tchange f t i).list = t.list.take i ++ (g (t.list.getD i (0, 0)) ++ t.list.drop (i + 1))
  | .nil, _, h, _ => h.elim
  | .item a b, i, _, hi => by
    have e : i = 0 := by unfold Tr.len at hi; omega
    subst e
    unfold tchange
    rw [hf]
    simp [Tr.list]
  | .join l r, i, h, hi => by
    obtain ⟨hl, hr, _⟩ := h
    have hll := Tr.len_list l
    have hi' : i < l.len + r.len := hi
    unfold tchange
    by_cases c : l.len ≤ i
    · rw [if_pos c, tjoin_list, tchange_list f g hf r (i - l.len) hr (by omega)]
      show _ = (l.list ++ r.list).take i ++ (g ((l.list ++ r.list).getD i (0, 0)) ++ (l.list ++ r.list).drop (i + 1))
      have e1 : (l.list ++ r.list).take i = l.list ++ r.list.take (i - l.len) := by rw [List.take_append, List.take_of_length_le (by omega), hll]
      have e2 : (l.list ++ r.list).drop (i + 1) = r.list.drop (i - l.len + 1) := by rw [List.drop_append, List.drop_of_length_le (by omega), hll, show i + 1 - l.len = i - l.len + 1 by omega]; rfl
      have e3 : (l.list ++ r.list).getD i (0, 0) = r.list.getD (i - l.len) (0, 0) := by rw [List.getD_eq_getElem?_getD, List.getElem?_append_right (by omega), hll, ← List.getD_eq_getElem?_getD]
      rw [e1, e2, e3, List.append_assoc]
    · rw [if_neg c, tjoin_list, tchange_list f g hf l i hl (by omega)]
      show _ = (l.list ++ r.list).take i ++ (g ((l.list ++ r.list).getD i (0, 0)) ++ (l.list ++ r.list).drop (i + 1))
      have e1 : (l.list ++ r.list).take i = l.list.take i := by rw [List.take_append, show i - l.list.length = 0 by omega]; simp
      have e2 : (l.list ++ r.list).drop (i + 1) = l.list.drop (i + 1) ++ r.list := by rw [List.drop_append, show i + 1 - l.list.length = 0 by omega]; simp
      have e3 : (l.list ++ r.list).getD i (0, 0) = l.list.getD i (0, 0) := by rw [List.getD_eq_getElem?_getD, List.getElem?_append_left (by omega), ← List.getD_eq_getElem?_getD]
      rw [e1, e2, e3, List.append_assoc, List.append_assoc]

end Go.Proofs.Ytcdmebjggdhhdaa
