/- Rows of bits as plain trees: put in, take out, build. -/
import Derived.Test.YtjfeocoengheaaaBl
namespace Go.Proofs.Ytjfeocoengheaaa
set_option maxRecDepth 100000

inductive BT where
  | nil
  | leaf (l : List Bool)
  | fork (a b : BT)

def BT.list : BT → List Bool
  | .nil => []
  | .leaf l => l
  | .fork a b => a.list ++ b.list
def BT.len : BT → Nat
  | .nil => 0
  | .leaf l => l.length
  | .fork a b => a.len + b.len
def BT.ones : BT → Nat
  | .nil => 0
  | .leaf l => l.count true
  | .fork a b => a.ones + b.ones
def BT.high : BT → Nat
  | .nil => 0
  | .leaf _ => 1
  | .fork a b => 1 + max a.high b.high
def BT.isNil : BT → Bool
  | .nil => true
  | _ => false
/-- Balanced, of leaves that are not too few bits. -/
def BT.Full : BT → Prop
  | .nil => False
  | .leaf l => 16 ≤ l.length ∧ l.length ≤ 64
  | .fork a b => a.Full ∧ b.Full ∧ a.high ≤ b.high + 1 ∧ b.high ≤ a.high + 1
/-- A row: nothing, or one leaf, or a full tree. -/
def BT.Fine (t : BT) : Prop := t = .nil ∨ (∃ l, t = .leaf l ∧ 1 ≤ l.length ∧ l.length ≤ 64) ∨ t.Full
/-- Full, or a leaf of too few bits. -/
def BT.Near (t : BT) : Prop := t.Full ∨ ∃ l, t = .leaf l ∧ 1 ≤ l.length ∧ l.length < 16

theorem BT.len_list : ∀ t : BT, t.list.length = t.len
  | .nil => rfl
  | .leaf _ => rfl
  | .fork l r => by simp [BT.list, BT.len, BT.len_list l, BT.len_list r]
theorem BT.ones_list : ∀ t : BT, t.list.count true = t.ones
  | .nil => rfl
  | .leaf _ => rfl
  | .fork l r => by simp [BT.list, BT.ones, BT.ones_list l, BT.ones_list r]
theorem BT.ones_le (t : BT) : t.ones ≤ t.len := by rw [← t.ones_list, ← t.len_list]; exact List.count_le_length
theorem BT.Full.high {t : BT} (h : t.Full) : 1 ≤ t.high := by
  cases t with
  | nil => exact h.elim
  | leaf l => exact Nat.le_refl _
  | fork l r => unfold BT.high; omega
theorem BT.Full.some {t : BT} (h : t.Full) : t.isNil = false := by
  cases t with
  | nil => exact h.elim
  | leaf l => rfl
  | fork l r => rfl
theorem BT.Full.len {t : BT} (h : t.Full) : 16 ≤ t.len := by
  induction t with
  | nil => exact h.elim
  | leaf l => exact h.1
  | fork l r il ir => have := il h.1; unfold BT.len; omega
theorem BT.Fine.len {t : BT} (h : t.Fine) : t.isNil = false → 1 ≤ t.len := by
  intro e
  rcases h with rfl | ⟨l, rfl, a, _⟩ | h
  · cases e
  · exact a
  · have := h.len; omega
theorem BT.Fine.nil_iff {t : BT} (h : t.Fine) : t.isNil = true ↔ t.len = 0 := by
  constructor
  · intro e; cases t <;> first | rfl | cases e
  · intro e
    cases hn : t.isNil
    · have := h.len hn; omega
    · rfl
theorem BT.isNil_eq {t : BT} (h : t.isNil = true) : t = .nil := by cases t <;> first | rfl | cases h

def brotL (x y : BT) : BT :=
  match x with
  | .fork u v => if v.high ≤ u.high then .fork u (.fork v y) else
    match v with
    | .fork b c => .fork (.fork u b) (.fork c y)
    | _ => .fork x y
  | _ => .fork x y
def brotR (x y : BT) : BT :=
  match y with
  | .fork u v => if u.high ≤ v.high then .fork (.fork x u) v else
    match u with
    | .fork b c => .fork (.fork x b) (.fork c v)
    | _ => .fork x y
  | _ => .fork x y
/-- Two rows that differ by two at most, in balance again. -/
def bfork (x y : BT) : BT :=
  if y.high + 1 < x.high then brotL x y
  else if x.high + 1 < y.high then brotR x y
  else .fork x y

theorem bfork_even {x y : BT} (h1 : x.high ≤ y.high + 1) (h2 : y.high ≤ x.high + 1) : bfork x y = .fork x y := by
  unfold bfork
  rw [if_neg (by omega), if_neg (by omega)]
theorem bfork_left {x y : BT} (hx : x.Full) (hy : y.Full) (h : x.high = y.high + 2) :
    (∃ u v, x = .fork u v ∧ v.high ≤ u.high ∧ bfork x y = .fork u (.fork v y)) ∨ (∃ u b c, x = .fork u (.fork b c) ∧ u.high < (BT.fork b c).high ∧ bfork x y = .fork (.fork u b) (.fork c y)) := by
  have hy1 := hy.high
  have e : bfork x y = brotL x y := by
    unfold bfork
    rw [if_pos (by omega)]
  rw [e]
  cases x with
  | nil => exact hx.elim
  | leaf l => have e1 : (BT.leaf l).high = 1 := rfl; omega
  | fork u v =>
    by_cases g : v.high ≤ u.high
    · exact .inl ⟨u, v, rfl, g, if_pos g⟩
    · right
      cases v with
      | nil => exact hx.2.1.elim
      | leaf l => have := hx.1.high; have e1 : (BT.leaf l).high = 1 := rfl; omega
      | fork b c => exact ⟨u, b, c, rfl, by omega, if_neg g⟩
theorem bfork_right {x y : BT} (hx : x.Full) (hy : y.Full) (h : y.high = x.high + 2) :
    (∃ u v, y = .fork u v ∧ u.high ≤ v.high ∧ bfork x y = .fork (.fork x u) v) ∨ (∃ b c v, y = .fork (.fork b c) v ∧ v.high < (BT.fork b c).high ∧ bfork x y = .fork (.fork x b) (.fork c v)) := by
  have hx1 := hx.high
  have e : bfork x y = brotR x y := by
    unfold bfork
    rw [if_neg (by omega), if_pos (by omega)]
  rw [e]
  cases y with
  | nil => exact hy.elim
  | leaf l => have e1 : (BT.leaf l).high = 1 := rfl; omega
  | fork u v =>
    by_cases g : u.high ≤ v.high
    · exact .inl ⟨u, v, rfl, g, if_pos g⟩
    · right
      cases u with
      | nil => exact hy.1.elim
      | leaf l => have := hy.2.1.high; have e1 : (BT.leaf l).high = 1 := rfl; omega
      | fork b c => exact ⟨b, c, v, rfl, by omega, if_neg g⟩
/-- What bfork gives. -/
structure BJoined (x y z : BT) : Prop where
  full : z.Full
  list : z.list = x.list ++ y.list
  lo : max x.high y.high ≤ z.high
  hi : z.high ≤ max x.high y.high + 1
  even : x.high ≤ y.high + 1 → y.high ≤ x.high + 1 → z.high = max x.high y.high + 1
theorem bfork_is {x y : BT} (hx : x.Full) (hy : y.Full) (h1 : x.high ≤ y.high + 2) (h2 : y.high ≤ x.high + 2) : BJoined x y (bfork x y) := by
  by_cases a : x.high ≤ y.high + 1
  · by_cases b : y.high ≤ x.high + 1
    · rw [bfork_even a b]
      exact ⟨⟨hx, hy, a, b⟩, rfl, by show max x.high y.high ≤ 1 + max x.high y.high; omega, by show 1 + max x.high y.high ≤ _; omega, fun _ _ => by show 1 + max x.high y.high = _; omega⟩
    · rcases bfork_right hx hy (by omega) with ⟨u, v, rfl, g, e⟩ | ⟨b', c, v, rfl, g, e⟩
      · rw [e]
        obtain ⟨u1, v1, g1, g2⟩ := hy
        refine ⟨⟨⟨hx, u1, ?_, ?_⟩, v1, ?_, ?_⟩, by simp [BT.list], ?_, ?_, fun _ _ => by omega⟩ <;> simp only [BT.high] at * <;> omega
      · rw [e]
        obtain ⟨⟨b1, c1, g3, g4⟩, v1, g1, g2⟩ := hy
        refine ⟨⟨⟨hx, b1, ?_, ?_⟩, ⟨c1, v1, ?_, ?_⟩, ?_, ?_⟩, by simp [BT.list], ?_, ?_, fun _ _ => by omega⟩ <;> simp only [BT.high] at * <;> omega
  · rcases bfork_left hx hy (by omega) with ⟨u, v, rfl, g, e⟩ | ⟨u, b', c, rfl, g, e⟩
    · rw [e]
      obtain ⟨u1, v1, g1, g2⟩ := hx
      refine ⟨⟨u1, ⟨v1, hy, ?_, ?_⟩, ?_, ?_⟩, by simp [BT.list], ?_, ?_, fun _ _ => by omega⟩ <;> simp only [BT.high] at * <;> omega
    · rw [e]
      obtain ⟨u1, ⟨b1, c1, g3, g4⟩, g1, g2⟩ := hx
      refine ⟨⟨⟨u1, b1, ?_, ?_⟩, ⟨c1, hy, ?_, ?_⟩, ?_, ?_⟩, by simp [BT.list], ?_, ?_, fun _ _ => by omega⟩ <;> simp only [BT.high] at * <;> omega

def bIns (l : List Bool) (i : Nat) (b : Bool) : List Bool := l.take i ++ b :: l.drop i
def bDel (l : List Bool) (i : Nat) : List Bool := l.take i ++ l.drop (i + 1)
theorem bIns_len {l : List Bool} {i : Nat} {b : Bool} (h : i ≤ l.length) : (bIns l i b).length = l.length + 1 := by
  unfold bIns
  rw [List.length_append, List.length_cons, List.length_take, List.length_drop]
  omega
theorem bDel_len {l : List Bool} {i : Nat} (h : i < l.length) : (bDel l i).length + 1 = l.length := by
  unfold bDel
  rw [List.length_append, List.length_take, List.length_drop]
  omega
theorem bIns_right {a c : List Bool} {i : Nat} {b : Bool} (h : a.length ≤ i) : bIns (a ++ c) i b = a ++ bIns c (i - a.length) b := by
  unfold bIns
  rw [List.take_append, List.drop_append, List.take_of_length_le h, List.drop_eq_nil_of_le h, List.append_assoc, List.nil_append]
theorem bIns_left {a c : List Bool} {i : Nat} {b : Bool} (h : i ≤ a.length) : bIns (a ++ c) i b = bIns a i b ++ c := by
  unfold bIns
  rw [List.take_append_of_le_length h, List.drop_append_of_le_length h, List.append_assoc, List.cons_append]
theorem bDel_right {a c : List Bool} {i : Nat} (h : a.length ≤ i) : bDel (a ++ c) i = a ++ bDel c (i - a.length) := by
  unfold bDel
  rw [List.take_append, List.drop_append, List.take_of_length_le h, List.drop_eq_nil_of_le (by omega), List.append_assoc, List.nil_append, show i + 1 - a.length = i - a.length + 1 by omega]
theorem bDel_left {a c : List Bool} {i : Nat} (h : i < a.length) : bDel (a ++ c) i = bDel a i ++ c := by
  unfold bDel
  rw [List.take_append_of_le_length (by omega), List.drop_append_of_le_length (by omega), List.append_assoc]

def binsert : BT → Nat → Bool → BT
  | .nil, _, b => .leaf [b]
  | .leaf l, i, b => if l.length < 64 then .leaf (bIns l i b) else if i ≤ 32 then .fork (.leaf (bIns (l.take 32) i b)) (.leaf (l.drop 32)) else .fork (.leaf (l.take 32)) (.leaf (bIns (l.drop 32) (i - 32) b))
  | .fork x y, i, b => if x.len < i then bfork x (binsert y (i - x.len) b) else bfork (binsert x i b) y
/-- What binsert gives of a full tree. -/
theorem binsert_full : ∀ (t : BT) (i : Nat) (b : Bool), t.Full → i ≤ t.len → (binsert t i b).Full ∧ (binsert t i b).list = bIns t.list i b ∧ t.high ≤ (binsert t i b).high ∧ (binsert t i b).high ≤ t.high + 1
  | .nil, _, _, h, _ => h.elim
  | .leaf l, i, b, h, hi => by
    obtain ⟨h1, h2⟩ := h
    have hi : i ≤ l.length := hi
    unfold binsert
    by_cases e : l.length < 64
    · rw [if_pos e]
      have := bIns_len (b := b) hi
      exact ⟨⟨by omega, by omega⟩, rfl, Nat.le_refl _, by show 1 ≤ 2; omega⟩
    · rw [if_neg e]
      have t1 : (l.take 32).length = 32 := by rw [List.length_take]; omega
      have t2 : (l.drop 32).length = 32 := by rw [List.length_drop]; omega
      by_cases g : i ≤ 32
      · rw [if_pos g]
        have := bIns_len (l := l.take 32) (i := i) (b := b) (by omega)
        refine ⟨⟨⟨by omega, by omega⟩, ⟨by omega, by omega⟩, by show 1 ≤ 2; omega, by show 1 ≤ 2; omega⟩, ?_, by show 1 ≤ 2; omega, by show 2 ≤ 2; omega⟩
        show bIns (l.take 32) i b ++ l.drop 32 = bIns l i b
        rw [← bIns_left (by omega), List.take_append_drop]
      · rw [if_neg g]
        have := bIns_len (l := l.drop 32) (i := i - 32) (b := b) (by omega)
        refine ⟨⟨⟨by omega, by omega⟩, ⟨by omega, by omega⟩, by show 1 ≤ 2; omega, by show 1 ≤ 2; omega⟩, ?_, by show 1 ≤ 2; omega, by show 2 ≤ 2; omega⟩
        show l.take 32 ++ bIns (l.drop 32) (i - 32) b = bIns l i b
        have e := bIns_right (a := l.take 32) (c := l.drop 32) (i := i) (b := b) (by omega)
        rw [List.take_append_drop, t1] at e
        exact e.symm
  | .fork x y, i, b, h, hi => by
    obtain ⟨hx, hy, g1, g2⟩ := h
    have hi : i ≤ x.len + y.len := hi
    have hh : (BT.fork x y).high = 1 + max x.high y.high := rfl
    unfold binsert
    rw [hh]
    by_cases g : x.len < i
    · rw [if_pos g]
      obtain ⟨b1, b2, b3, b4⟩ := binsert_full y (i - x.len) b hy (by omega)
      obtain ⟨c1, c2, c3, c4, c5⟩ := bfork_is hx b1 (by omega) (by omega)
      refine ⟨c1, ?_, ?_, ?_⟩
      · rw [c2, b2]
        show _ = bIns (x.list ++ y.list) i b
        rw [bIns_right (by rw [x.len_list]; omega), x.len_list]
      · by_cases e : (binsert y (i - x.len) b).high ≤ x.high + 1
        · have := c5 (by omega) e; omega
        · omega
      · by_cases e : (binsert y (i - x.len) b).high ≤ x.high + 1
        · have := c5 (by omega) e; omega
        · omega
    · rw [if_neg g]
      obtain ⟨b1, b2, b3, b4⟩ := binsert_full x i b hx (by omega)
      obtain ⟨c1, c2, c3, c4, c5⟩ := bfork_is b1 hy (by omega) (by omega)
      refine ⟨c1, ?_, ?_, ?_⟩
      · rw [c2, b2]
        show _ = bIns (x.list ++ y.list) i b
        rw [bIns_left (by rw [x.len_list]; omega)]
      · by_cases e : (binsert x i b).high ≤ y.high + 1
        · have := c5 e (by omega); omega
        · omega
      · by_cases e : (binsert x i b).high ≤ y.high + 1
        · have := c5 e (by omega); omega
        · omega
theorem binsert_fine {t : BT} (h : t.Fine) {i : Nat} (hi : i ≤ t.len) (b : Bool) : (binsert t i b).Fine ∧ (binsert t i b).list = bIns t.list i b ∧ (binsert t i b).isNil = false := by
  rcases h with rfl | ⟨l, rfl, h1, h2⟩ | h
  · have : i = 0 := by have : i ≤ 0 := hi; omega
    subst this
    exact ⟨.inr (.inl ⟨[b], rfl, by simp, by simp⟩), rfl, rfl⟩
  · by_cases e : 16 ≤ l.length
    · obtain ⟨a, b, _⟩ := binsert_full (.leaf l) i b ⟨e, h2⟩ hi
      exact ⟨.inr (.inr a), b, a.some⟩
    · have hi : i ≤ l.length := hi
      have e' : l.length < 64 := by omega
      have := bIns_len (b := b) hi
      unfold binsert
      rw [if_pos e']
      exact ⟨.inr (.inl ⟨_, rfl, by omega, by omega⟩), rfl, rfl⟩
  · obtain ⟨a, b, _⟩ := binsert_full t i b h hi
    exact ⟨.inr (.inr a), b, a.some⟩

def bhalves (a b : List Bool) : BT := if a.length + b.length ≤ 64 then .leaf (a ++ b) else .fork (.leaf ((a ++ b).take ((a.length + b.length + 1) / 2))) (.leaf ((a ++ b).drop ((a.length + b.length + 1) / 2)))
theorem bhalves_is {a b : List Bool} (h : 16 ≤ a.length + b.length) (h' : a.length + b.length ≤ 128) : (bhalves a b).Full ∧ (bhalves a b).list = a ++ b ∧ (bhalves a b).high ≤ 2 := by
  unfold bhalves
  by_cases e : a.length + b.length ≤ 64
  · rw [if_pos e]
    exact ⟨⟨by simp; omega, by simp; omega⟩, rfl, by show 1 ≤ 2; omega⟩
  · rw [if_neg e]
    refine ⟨⟨⟨?_, ?_⟩, ⟨?_, ?_⟩, by show 1 ≤ 2; omega, by show 1 ≤ 2; omega⟩, List.take_append_drop _ _, Nat.le_refl _⟩ <;> simp only [List.length_take, List.length_drop, List.length_append] <;> omega
def bpour : BT → List Bool → Bool → BT
  | .nil, s, _ => .leaf s
  | .leaf l, s, ahead => if ahead = true then bhalves s l else bhalves l s
  | .fork x y, s, ahead => if ahead = true then bfork (bpour x s ahead) y else bfork x (bpour y s ahead)
def bAdd (l s : List Bool) (ahead : Bool) : List Bool := if ahead = true then s ++ l else l ++ s
theorem bpour_is : ∀ (t : BT) (s : List Bool) (ahead : Bool), t.Full → s.length < 16 → (bpour t s ahead).Full ∧ (bpour t s ahead).list = bAdd t.list s ahead ∧ t.high ≤ (bpour t s ahead).high ∧ (bpour t s ahead).high ≤ t.high + 1
  | .nil, _, _, h, _ => h.elim
  | .leaf l, s, ahead, h, hs => by
    obtain ⟨h1, h2⟩ := h
    unfold bpour bAdd
    cases ahead
    · obtain ⟨a, b, c⟩ := bhalves_is (a := l) (b := s) (by omega) (by omega)
      exact ⟨a, b, a.high, c⟩
    · obtain ⟨a, b, c⟩ := bhalves_is (a := s) (b := l) (by omega) (by omega)
      exact ⟨a, b, a.high, c⟩
  | .fork x y, s, ahead, h, hs => by
    obtain ⟨hx, hy, g1, g2⟩ := h
    have hh : (BT.fork x y).high = 1 + max x.high y.high := rfl
    unfold bpour
    rw [hh]
    cases ahead
    · obtain ⟨b1, b2, b3, b4⟩ := bpour_is y s false hy hs
      obtain ⟨c1, c2, c3, c4, c5⟩ := bfork_is hx b1 (by omega) (by omega)
      rw [if_neg (by decide)]
      refine ⟨c1, ?_, ?_, ?_⟩
      · rw [c2, b2]
        show x.list ++ (y.list ++ s) = x.list ++ y.list ++ s
        rw [List.append_assoc]
      · by_cases e : (bpour y s false).high ≤ x.high + 1
        · have := c5 (by omega) e; omega
        · omega
      · by_cases e : (bpour y s false).high ≤ x.high + 1
        · have := c5 (by omega) e; omega
        · omega
    · obtain ⟨b1, b2, b3, b4⟩ := bpour_is x s true hx hs
      obtain ⟨c1, c2, c3, c4, c5⟩ := bfork_is b1 hy (by omega) (by omega)
      rw [if_pos rfl]
      refine ⟨c1, ?_, ?_, ?_⟩
      · rw [c2, b2]
        show s ++ x.list ++ y.list = s ++ (x.list ++ y.list)
        rw [List.append_assoc]
      · by_cases e : (bpour x s true).high ≤ y.high + 1
        · have := c5 e (by omega); omega
        · omega
      · by_cases e : (bpour x s true).high ≤ y.high + 1
        · have := c5 e (by omega); omega
        · omega

def BT.small : BT → Bool
  | .leaf l => decide (l.length < 16)
  | _ => false
theorem BT.Full.notsmall {t : BT} (h : t.Full) : t.small = false := by
  cases t with
  | nil => rfl
  | leaf l => exact decide_eq_false (by have := h.1; omega)
  | fork l r => rfl
def bboth (x y : BT) : BT :=
  if x.isNil = true then y
  else if y.isNil = true then x
  else if x.small = true then bpour y x.list true
  else if y.small = true then bpour x y.list false
  else bfork x y
def bcut : BT → Nat → BT
  | .nil, _ => .nil
  | .leaf l, i => if l.length = 1 then .nil else .leaf (bDel l i)
  | .fork x y, i => if x.len ≤ i then bboth x (bcut y (i - x.len)) else bboth (bcut x i) y
/-- What both gives of two of which one was cut. -/
theorem bboth_left {x y : BT} {hx : Nat} (h : x.Near) (hy : y.Full) (h1 : x.high ≤ hx) (h2 : hx ≤ x.high + 1) (h3 : hx ≤ y.high + 1) (h4 : y.high ≤ hx + 1) (h5 : x.small = true → hx = 1) :
    (bboth x y).Full ∧ (bboth x y).list = x.list ++ y.list ∧ (bboth x y).high ≤ 1 + max hx y.high ∧ max hx y.high ≤ (bboth x y).high := by
  unfold bboth
  rcases h with h | ⟨l, rfl, l1, l2⟩
  · rw [if_neg (by rw [h.some]; decide), if_neg (by rw [hy.some]; decide), if_neg (by rw [h.notsmall]; decide), if_neg (by rw [hy.notsmall]; decide)]
    obtain ⟨c1, c2, c3, c4, c5⟩ := bfork_is h hy (by omega) (by omega)
    refine ⟨c1, c2, by omega, ?_⟩
    by_cases e : y.high ≤ x.high + 1
    · have := c5 (by omega) e; omega
    · omega
  · have e1 : (BT.leaf l).small = true := decide_eq_true l2
    have e2 : (BT.leaf l).high = 1 := rfl
    have := h5 e1
    have := hy.high
    rw [if_neg (by show ¬ false = true; decide), if_neg (by rw [hy.some]; decide), if_pos e1]
    obtain ⟨c1, c2, c3, c4⟩ := bpour_is y l true hy l2
    exact ⟨c1, c2, by show (bpour y l true).high ≤ _; omega, by show _ ≤ (bpour y l true).high; omega⟩
theorem bboth_right {x y : BT} {hy : Nat} (hx : x.Full) (h : y.Near) (h1 : y.high ≤ hy) (h2 : hy ≤ y.high + 1) (h3 : hy ≤ x.high + 1) (h4 : x.high ≤ hy + 1) (h5 : y.small = true → hy = 1) :
    (bboth x y).Full ∧ (bboth x y).list = x.list ++ y.list ∧ (bboth x y).high ≤ 1 + max x.high hy ∧ max x.high hy ≤ (bboth x y).high := by
  unfold bboth
  rcases h with h | ⟨l, rfl, l1, l2⟩
  · rw [if_neg (by rw [hx.some]; decide), if_neg (by rw [h.some]; decide), if_neg (by rw [hx.notsmall]; decide), if_neg (by rw [h.notsmall]; decide)]
    obtain ⟨c1, c2, c3, c4, c5⟩ := bfork_is hx h (by omega) (by omega)
    refine ⟨c1, c2, by omega, ?_⟩
    by_cases e : x.high ≤ y.high + 1
    · have := c5 e (by omega); omega
    · omega
  · have e1 : (BT.leaf l).small = true := decide_eq_true l2
    have e2 : (BT.leaf l).high = 1 := rfl
    have := h5 e1
    have := hx.high
    rw [if_neg (by rw [hx.some]; decide), if_neg (by show ¬ false = true; decide), if_neg (by rw [hx.notsmall]; decide), if_pos e1]
    obtain ⟨c1, c2, c3, c4⟩ := bpour_is x l false hx l2
    exact ⟨c1, c2, by show (bpour x l false).high ≤ _; omega, by show _ ≤ (bpour x l false).high; omega⟩
theorem bcut_full : ∀ (t : BT) (i : Nat), t.Full → i < t.len → (bcut t i).Near ∧ (bcut t i).list = bDel t.list i ∧ (bcut t i).high ≤ t.high ∧ t.high ≤ (bcut t i).high + 1 ∧ ((bcut t i).small = true → t.high = 1)
  | .nil, _, h, _ => h.elim
  | .leaf l, i, h, hi => by
    obtain ⟨h1, h2⟩ := h
    have hi : i < l.length := hi
    have := bDel_len hi
    unfold bcut
    rw [if_neg (by omega)]
    refine ⟨?_, rfl, Nat.le_refl _, by show 1 ≤ 2; omega, fun _ => rfl⟩
    by_cases e : 16 ≤ (bDel l i).length
    · exact .inl ⟨e, by omega⟩
    · exact .inr ⟨_, rfl, by omega, by omega⟩
  | .fork x y, i, h, hi => by
    obtain ⟨hx, hy, g1, g2⟩ := h
    have hi : i < x.len + y.len := hi
    have hh : (BT.fork x y).high = 1 + max x.high y.high := rfl
    unfold bcut
    rw [hh]
    by_cases g : x.len ≤ i
    · rw [if_pos g]
      obtain ⟨b1, b2, b3, b4, b5⟩ := bcut_full y (i - x.len) hy (by omega)
      obtain ⟨c1, c2, c3, c4⟩ := bboth_right hx b1 b3 b4 (by omega) (by omega) b5
      refine ⟨.inl c1, ?_, by omega, by omega, fun e => by rw [c1.notsmall] at e; cases e⟩
      rw [c2, b2]
      show _ = bDel (x.list ++ y.list) i
      rw [bDel_right (by rw [x.len_list]; omega), x.len_list]
    · rw [if_neg g]
      obtain ⟨b1, b2, b3, b4, b5⟩ := bcut_full x i hx (by omega)
      obtain ⟨c1, c2, c3, c4⟩ := bboth_left b1 hy b3 b4 (by omega) (by omega) b5
      refine ⟨.inl c1, ?_, by omega, by omega, fun e => by rw [c1.notsmall] at e; cases e⟩
      rw [c2, b2]
      show _ = bDel (x.list ++ y.list) i
      rw [bDel_left (by rw [x.len_list]; omega)]
theorem bcut_fine {t : BT} (h : t.Fine) {i : Nat} (hi : i < t.len) : (bcut t i).Fine ∧ (bcut t i).list = bDel t.list i := by
  rcases h with rfl | ⟨l, rfl, h1, h2⟩ | h
  · exact absurd hi (Nat.not_lt_zero _)
  · have hi : i < l.length := hi
    have := bDel_len hi
    unfold bcut
    by_cases e : l.length = 1
    · rw [if_pos e]
      exact ⟨.inl rfl, (List.eq_nil_of_length_eq_zero (by show (bDel l i).length = 0; omega)).symm⟩
    · rw [if_neg e]
      exact ⟨.inr (.inl ⟨_, rfl, by omega, by omega⟩), rfl⟩
  · obtain ⟨a, b, _⟩ := bcut_full t i h hi
    refine ⟨?_, b⟩
    rcases a with a | ⟨l, e, l1, l2⟩
    · exact .inr (.inr a)
    · exact .inr (.inl ⟨l, e, l1, by omega⟩)
end Go.Proofs.Ytjfeocoengheaaa
