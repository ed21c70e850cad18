/- Lists of pairs in the arena: what is put in, taken out, set. Plain. -/
import Derived.Test.YtcdmebjggdhhdaaLf
namespace Go.Proofs.Ytcdmebjggdhhdaa
open Go.RowKit

theorem tjoin_len (x y : Tr) : (tjoin x y).len = x.len + y.len := by
  rw [← Tr.len_list, tjoin_list, List.length_append, Tr.len_list, Tr.len_list]
theorem tchange_len {f : Tr → Tr} (hf : ∀ a b, (f (.item a b)).len ≤ 2) : ∀ (t : Tr) (i : Nat), t.Bal → (tchange f t i).len ≤ t.len + 1
  | .nil, _, h => h.elim
  | .item a b, i, _ => hf a b
  | .join l r, i, h => by
    unfold tchange
    have hl := tchange_len hf l i h.1
    have hr := tchange_len hf r (i - l.len) h.2.1
    show _ ≤ l.len + r.len + 1
    split <;> rw [tjoin_len] <;> omega
theorem mild_del : Mild fun _ => .nil := fun t i h => by
  obtain ⟨a, b, c⟩ := tchange_shrinks (f := fun _ => .nil) (fun _ _ => .inl rfl) t i h
  exact ⟨a, b, by omega, tchange_len (fun _ _ => Nat.zero_le _) t i h⟩
theorem mild_set (x y : Int) : Mild fun _ => .item x y := fun t i h => by
  obtain ⟨a, b, c⟩ := tchange_grows (f := fun _ => .item x y) (fun _ _ => ⟨trivial, by show 1 ≤ 2; omega⟩) t i h
  exact ⟨.inr a, by omega, c, tchange_len (fun _ _ => by show 1 ≤ 2; omega) t i h⟩
theorem insF_item (x y n i a b : Int) : (insF x y n i (.item a b)).Bal ∧ (insF x y n i (.item a b)).high ≤ 2 ∧ (insF x y n i (.item a b)).len ≤ 2 := by
  unfold insF
  split
  · exact ⟨⟨trivial, trivial, show 1 ≤ 1 + 1 by omega, show 1 ≤ 1 + 1 by omega⟩, by show 1 + max 1 1 ≤ 2; omega, by show 1 + 1 ≤ 2; omega⟩
  · exact ⟨⟨trivial, trivial, show 1 ≤ 1 + 1 by omega, show 1 ≤ 1 + 1 by omega⟩, by show 1 + max 1 1 ≤ 2; omega, by show 1 + 1 ≤ 2; omega⟩
theorem mild_ins (x y n i : Int) : Mild (insF x y n i) := fun t j h => by
  obtain ⟨a, b, c⟩ := tchange_grows (f := insF x y n i) (fun a b => ⟨(insF_item x y n i a b).1, (insF_item x y n i a b).2.1⟩) t j h
  exact ⟨.inr a, by omega, c, tchange_len (fun a b => (insF_item x y n i a b).2.2) t j h⟩

/-- An item put in; one taken out; another one set. -/
def insL {α : Type} (l : List α) (i : Nat) (v : α) : List α := l.take i ++ v :: l.drop i
def delL {α : Type} (l : List α) (i : Nat) : List α := l.take i ++ l.drop (i + 1)
def setL {α : Type} (l : List α) (i : Nat) (v : α) : List α := l.take i ++ v :: l.drop (i + 1)

theorem del_list {t : Tr} {i : Nat} (h : t.Bal) (hi : i < t.len) : (tchange (fun _ => .nil) t i).list = delL t.list i :=
  tchange_list (fun _ => .nil) (fun _ => []) (fun _ _ => rfl) t i h hi
theorem set_list {t : Tr} {i : Nat} {x y : Int} (h : t.Bal) (hi : i < t.len) : (tchange (fun _ => .item x y) t i).list = setL t.list i (x, y) :=
  tchange_list (fun _ => .item x y) (fun _ => [(x, y)]) (fun _ _ => rfl) t i h hi
theorem ins_list {t : Tr} {i : Nat} {x y : Int} (h : t.Bal) (hi : i ≤ t.len) : (tchange (insF x y t.len i) t (min i (t.len - 1))).list = insL t.list i (x, y) := by
  have hl := h.len
  have hll := Tr.len_list t
  by_cases e : i = t.len
  · rw [show min i (t.len - 1) = t.len - 1 by omega, tchange_list (insF x y t.len i) (fun p => [p, (x, y)]) (fun a b => by unfold insF; rw [if_pos (by omega)]; rfl) t _ h (by omega)]
    unfold insL
    rw [e, ← hll, List.take_length, List.drop_length, show t.list.length - 1 + 1 = t.list.length by omega, List.drop_length]
    have : t.list = t.list.take (t.list.length - 1) ++ [t.list.getD (t.list.length - 1) (0, 0)] := by
      rw [List.getD_eq_getElem?_getD, List.getElem?_eq_getElem (by omega)]
      have h2 := List.drop_eq_getElem_cons (l := t.list) (i := t.list.length - 1) (by omega)
      rw [show t.list.length - 1 + 1 = t.list.length by omega, List.drop_length] at h2
      simp only [Option.getD_some]
      rw [← h2, List.take_append_drop]
    generalize t.list.getD (t.list.length - 1) (0, 0) = p at this ⊢
    show t.list.take (t.list.length - 1) ++ ([p, (x, y)] ++ []) = t.list ++ [(x, y)]
    conv => rhs; rw [this]
    simp
  · rw [show min i (t.len - 1) = i by omega, tchange_list (insF x y t.len i) (fun p => [(x, y), p]) (fun a b => by unfold insF; rw [if_neg (by omega)]; rfl) t _ h (by omega)]
    unfold insL
    rw [List.drop_eq_getElem_cons (l := t.list) (i := i) (by omega), List.getD_eq_getElem?_getD, List.getElem?_eq_getElem (by omega)]
    rfl
theorem Tr.Bal.high_le {t : Tr} (h : t.Bal) (hl : t.len ≤ 232) : t.high ≤ 11 := by
  have := h.fib
  rcases Nat.lt_or_ge t.high 12 with g | g
  · omega
  · have h2 := fibL_le g
    have h3 : fibL 12 = 233 := by decide
    omega

/-- The arena holds the list at a handle. -/
def Lh (s : Ar) (h : Int) (l : List (Int × Int)) : Prop := ∃ t, Rep s h t ∧ t.Fine ∧ t.list = l
theorem Lh.ext {s s' : Ar} {h : Int} {l : List (Int × Int)} (x : Lh s h l) (e : Ext s s') : Lh s' h l := by
  obtain ⟨t, a, b, c⟩ := x
  exact ⟨t, a.ext e, b, c⟩
theorem Lh.nil (s : Ar) : Lh s 0 [] := ⟨.nil, rfl, .inl rfl, rfl⟩
theorem Lh.pos {s : Ar} {h : Int} {l : List (Int × Int)} (x : Lh s h l) (hl : l ≠ []) : 1 ≤ h ∧ h ≤ s.n := by
  obtain ⟨t, a, b, rfl⟩ := x
  rcases b with rfl | b
  · exact absurd rfl hl
  · exact ⟨a.pos b.some, a.range.2⟩
theorem Lh.zero {s : Ar} {h : Int} (x : Lh s h []) : h = 0 := by
  obtain ⟨t, a, b, c⟩ := x
  rcases b with rfl | b
  · exact a
  · have := b.len; have e := Tr.len_list t; rw [c] at e; simp at e; omega
end Go.Proofs.Ytcdmebjggdhhdaa
