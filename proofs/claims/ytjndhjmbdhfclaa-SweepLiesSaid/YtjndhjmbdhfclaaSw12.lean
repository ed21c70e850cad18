/- SweepLies, in plain words: leaves, each had once; one of them told once more, or not told. -/
import Derived.Test.YtjndhjmbdhfclaaSw9
namespace Go.Proofs.Ytjndhjmbdhfclaa
set_option maxRecDepth 100000
open Go.RowKit

section
variable {n i : Nat}
theorem Lf_kids (n i j : Nat) : ((Lf n i).nd j).kids = [0, 0, 0, 0] := by
  show (if 1 ≤ j ∧ j ≤ i then leaf else Nd.zero).kids = _
  split <;> rfl
theorem Lf_count {x : Int} (hi : i ≤ n) : (Lf n i).count x = if 1 ≤ x ∧ x ≤ i then 1 else 0 := by
  unfold Ar.count
  show (if x < 1 ∨ (n : Int) < x then 0 else if 1 ≤ x.toNat ∧ x.toNat ≤ i then 1 else 0) = _
  by_cases h : x < 1 ∨ (n : Int) < x
  · rw [if_pos h, if_neg (by omega)]
  · rw [if_neg h]
    by_cases h2 : 1 ≤ x.toNat ∧ x.toNat ≤ i
    · rw [if_pos h2, if_pos (by omega)]
    · rw [if_neg h2, if_neg (by omega)]
theorem upto_count (i : Nat) {x : Int} : (upto i).count x = if 1 ≤ x ∧ x ≤ i then 1 else 0 := by
  have hn := (upto_asc i).nodup
  rw [hn.count]
  by_cases h : 1 ≤ x ∧ x ≤ i
  · rw [if_pos (mem_upto.2 h), if_pos h]
  · rw [if_neg (fun e => h (mem_upto.1 e)), if_neg h]
theorem acc_Lf (hi : i ≤ n) : Acc (Lf n i) (cnt (upto i)) := by
  refine ⟨fun k k1 k2 => ?_, fun h _ y hy => ?_, fun h hu => ?_⟩
  · have : refs (Lf n i) k = 0 := sumN_zero fun j _ _ => by
      unfold ctr
      rw [Lf_kids]
      split
      · rw [List.count_eq_zero]; intro e; simp at e; omega
      · rfl
    rw [this]
    unfold cnt
    rw [upto_count]
    show (if 1 ≤ k ∧ k ≤ i then (1 : Int) else 0) = _
    by_cases h : 1 ≤ k ∧ k ≤ i
    · rw [if_pos h, if_pos (by omega)]; rfl
    · rw [if_neg h, if_neg (by omega)]; rfl
  · rw [Lf_kids] at hy
    have : y = 0 := by simpa using hy
    subst this
    exact ⟨Int.le_refl _, by omega⟩
  · have hu' : decide (1 ≤ h ∧ h ≤ i) = true := hu
    have := of_decide_eq_true hu'
    exact ⟨this.1, by show h ≤ n; omega⟩
theorem Lf_wait (n i : Nat) : ∀ m, (∀ x : Int, 1 ≤ x → x ≤ i → (Lf n i).count x ≠ 0) → waitTo (Lf n i) m = []
  | 0, _ => rfl
  | m + 1, h => by
    unfold waitTo
    rw [Lf_wait n i m h, List.nil_append, if_neg]
    rintro ⟨h1, h2⟩
    have h1' : decide (1 ≤ m + 1 ∧ m + 1 ≤ i) = true := h1
    have := of_decide_eq_true h1'
    exact h _ (by omega) (by omega) h2
theorem Lf_waits (hi : i ≤ n) : waitTo (Lf n i) (Lf n i).n = [] := Lf_wait n i _ fun x x1 x2 => by rw [Lf_count hi, if_pos ⟨x1, x2⟩]; decide
theorem Lf_rch (hi : i ≤ n) {held : List Int} {x : Int} : Rch (Lf n i) (held ++ waitTo (Lf n i) (Lf n i).n) x ↔ x ∈ held ∧ 1 ≤ x ∧ x ≤ i := by
  rw [Lf_waits hi, List.append_nil]
  constructor
  · intro h
    have hl := h.live
    rw [Lf_count hi] at hl
    have hr : 1 ≤ x ∧ x ≤ i := by
      by_cases e : 1 ≤ x ∧ x ≤ i
      · exact e
      · rw [if_neg e] at hl; exact absurd rfl hl
    refine ⟨?_, hr⟩
    cases h with
    | root h1 _ => exact h1
    | kid _ h2 _ =>
      rw [Lf_kids] at h2
      have : x = 0 := by simpa using h2
      omega
  · rintro ⟨h1, h2⟩
    exact .root h1 (by rw [Lf_count hi, if_pos h2]; decide)
theorem Lf_live (hi : i ≤ n) : liveTo (Lf n i) (Lf n i).n = upto i := by
  refine asc_ext ?_ (upto_asc i) fun x => ?_
  · unfold liveTo
    exact (upto_asc _).filter _
  · rw [mem_live, mem_upto, Lf_count hi]
    show (1 ≤ x ∧ x ≤ (n : Int)) ∧ _ ↔ _
    by_cases e : 1 ≤ x ∧ x ≤ i
    · rw [if_pos e]; constructor
      · intro _; exact e
      · intro _; exact ⟨by omega, by decide⟩
    · rw [if_neg e]; constructor
      · rintro ⟨_, h⟩; exact absurd h (by decide)
      · intro h; exact absurd h e
/-- The list without its kth. -/
def less (i k : Nat) : List Int := (upto i).take k ++ (upto i).drop (k + 1)
theorem upto_split {k : Nat} (hk : k < i) : upto i = (upto i).take k ++ ((k : Int) + 1) :: (upto i).drop (k + 1) := by
  have h : k < (upto i).length := by rw [upto_len]; exact hk
  conv => lhs; rw [← List.take_append_drop k (upto i)]
  rw [List.drop_eq_getElem_cons h]
  congr 2
  simp [upto]
theorem less_count {k : Nat} (hk : k < i) {x : Int} : (upto i).count x = (less i k).count x + if (k : Int) + 1 = x then 1 else 0 := by
  conv => lhs; rw [upto_split hk]
  unfold less
  rw [List.count_append, List.count_append, List.count_cons]
  by_cases e : (k : Int) + 1 = x
  · subst e; simp; omega
  · rw [if_neg e, if_neg (by simpa using e)]; omega
theorem less_mem {k : Nat} (hk : k < i) {x : Int} : x ∈ less i k ↔ (1 ≤ x ∧ x ≤ i) ∧ x ≠ (k : Int) + 1 := by
  have h := less_count hk (x := x)
  rw [upto_count] at h
  rw [← List.count_pos_iff]
  by_cases e : (k : Int) + 1 = x
  · subst e
    rw [if_pos rfl, if_pos (by omega)] at h
    constructor
    · intro h'; omega
    · rintro ⟨_, h'⟩; exact absurd rfl h'
  · rw [if_neg e] at h
    by_cases e2 : 1 ≤ x ∧ x ≤ i
    · rw [if_pos e2] at h
      exact ⟨fun _ => ⟨e2, fun h => e h.symm⟩, fun _ => by omega⟩
    · rw [if_neg e2] at h
      constructor
      · intro h'; omega
      · rintro ⟨h', _⟩; exact absurd h' e2
theorem lie_less {k B : Nat} (hi : i ≤ n) (hk : k < i) (ok : (Lf n i).Ok B) : auditSees (Lf n i) (less i k) = false := by
  refine audit_no (x := (k : Int) + 1) ok (acc_Lf hi) (by rw [Lf_count hi, if_pos (by omega)]; decide) ?_
  have h := less_count hk (x := (k : Int) + 1)
  rw [if_pos rfl] at h
  unfold cnt
  rw [show ((((k : Int) + 1).toNat : Nat) : Int) = (k : Int) + 1 by omega]
  omega
theorem lie_more {k B : Nat} (hi : i ≤ n) (hk : k < i) (ok : (Lf n i).Ok B) : auditSees (Lf n i) (upto i ++ [(k : Int) + 1]) = false := by
  refine audit_no (x := (k : Int) + 1) ok (acc_Lf hi) (by rw [Lf_count hi, if_pos (by omega)]; decide) ?_
  unfold cnt
  rw [show ((((k : Int) + 1).toNat : Nat) : Int) = (k : Int) + 1 by omega, List.count_append]
  simp
theorem lie_none {B : Nat} (hi : i ≤ n) (ok : (Lf n i).Ok B) : auditSees (Lf n i) (upto i) = true :=
  audit_yes ok (acc_Lf hi) (fun x hx => by have := mem_upto.1 hx; show 0 ≤ x ∧ x ≤ (n : Int); omega) fun x _ _ => rfl
theorem lie_zeros {B : Nat} (hi : i ≤ n) (ok : (Lf n i).Ok B) : auditSees (Lf n i) (upto i ++ [0, 0]) = true :=
  audit_yes ok (acc_Lf hi) (fun x hx => by
    rcases List.mem_append.1 hx with h | h
    · have := mem_upto.1 h; show 0 ≤ x ∧ x ≤ (n : Int); omega
    · have : x = 0 := by simpa using h
      subst this; show (0 : Int) ≤ 0 ∧ (0 : Int) ≤ (n : Int); omega) fun x x1 _ => by
    unfold cnt
    rw [List.count_append, show List.count (x : Int) [0, 0] = 0 from List.count_eq_zero.2 (by simp; omega)]
    omega
theorem leaks_more {k : Nat} (hi : i ≤ n) {ys : List Int} (hy : ∀ x, x ∈ ys ↔ Rch (Lf n i) ((upto i ++ [(k : Int) + 1]) ++ waitTo (Lf n i) (Lf n i).n) x) : ((liveTo (Lf n i) (Lf n i).n).filter fun h => !ys.contains h) = [] := by
  rw [Lf_live hi, List.filter_eq_nil_iff]
  intro x hx
  have : x ∈ ys := (hy x).2 ((Lf_rch hi).2 ⟨List.mem_append_left _ hx, mem_upto.1 hx⟩)
  simp [this]
theorem leaks_less {k : Nat} (hi : i ≤ n) (hk : k < i) {ys : List Int} (hy : ∀ x, x ∈ ys ↔ Rch (Lf n i) (less i k ++ waitTo (Lf n i) (Lf n i).n) x) : ((liveTo (Lf n i) (Lf n i).n).filter fun h => !ys.contains h) = [(k : Int) + 1] := by
  rw [Lf_live hi]
  refine asc_ext ((upto_asc i).filter _) (by simp [Asc]) fun x => ?_
  rw [List.mem_filter, mem_upto]
  have h := hy x
  rw [Lf_rch hi, less_mem hk] at h
  simp only [Bool.not_eq_true', List.mem_singleton]
  constructor
  · rintro ⟨h1, h2⟩
    by_cases e : x = (k : Int) + 1
    · exact e
    · have : x ∈ ys := h.2 ⟨⟨h1, e⟩, h1⟩
      simp [this] at h2
  · rintro rfl
    refine ⟨by omega, ?_⟩
    have : ¬ ((k : Int) + 1) ∈ ys := fun e => (h.1 e).1.2 rfl
    simp [this]
end
end Go.Proofs.Ytjndhjmbdhfclaa
