/- Which snapshots are open: plain laws of PinsMany, PinsNone, PinsLast. -/
import Derived.Test.YtjndhjmbdhfclaaP4
import Derived.Test.YtjndhjmbdhfclaaAr
import Derived.Test.YtjndhjmbdhfclaaKp
namespace Go.Proofs.Ytjndhjmbdhfclaa
set_option maxRecDepth 100000

/-- Those from a + 1 to b are open, each of the version x. -/
structure PE (es : List (Int × Int × Int)) (a b : Nat) (x : Int × Int) : Prop where
  mem : ∀ k, k ∈ es.map (·.1) ↔ (a : Int) < k ∧ k ≤ b
  len : es.length + a = b
  look : ∀ k, k ∈ es.map (·.1) → plook es k = x
theorem pe_nil (x : Int × Int) : PE [] 0 0 x := ⟨fun k => ⟨fun h => (by cases h), fun h => by omega⟩, rfl, fun k h => (by cases h)⟩
section
variable {es : List (Int × Int × Int)} {a b : Nat} {x : Int × Int}
theorem PE.snoc (h : PE es a b x) : PE (es ++ [((b : Int) + 1, x)]) a (b + 1) x := by
  have hn : ¬ ((b : Int) + 1) ∈ es.map (·.1) := fun e => by have := (h.mem _).1 e; omega
  have hl := h.len
  have hm : ∀ k, k ∈ (es ++ [((b : Int) + 1, x)]).map (·.1) ↔ (a : Int) < k ∧ k ≤ (b + 1 : Nat) := fun k => by
    rw [List.map_append, List.mem_append, h.mem]
    simp
    omega
  refine ⟨hm, by simp; omega, fun k hk => ?_⟩
  rw [plook_snoc es _ k hn]
  by_cases e : k = (b : Int) + 1
  · rw [if_pos e]
  · rw [if_neg e]
    exact h.look k ((h.mem k).2 (by have := (hm k).1 hk; omega))
theorem PE.cut (h : PE es a b x) (hn : (es.map (·.1)).Nodup) (ha : a < b) : PE (pcut es ((a : Int) + 1)) (a + 1) b x := by
  have hin : ((a : Int) + 1) ∈ es.map (·.1) := (h.mem _).2 (by omega)
  have hl := length_cut hn hin
  have := h.len
  refine ⟨fun k => by rw [mem_cut, h.mem]; omega, by omega, fun k hk => ?_⟩
  obtain ⟨h1, h2⟩ := mem_cut.1 hk
  rw [plook_cut es _ k h2]
  exact h.look k h1
end
/-- Those that are left, where they are closed from the first one on, round about. -/
structure PR (es : List (Int × Int × Int)) (first n k : Nat) (x : Int × Int) : Prop where
  mem : ∀ i, i < n → ((1 + (((first + i) % n : Nat) : Int)) ∈ es.map (·.1) ↔ k ≤ i)
  sub : ∀ y : Int, y ∈ es.map (·.1) → 1 ≤ y ∧ y ≤ n
  len : es.length + k = n
  look : ∀ y : Int, y ∈ es.map (·.1) → plook es y = x
theorem mod_inj {first n i j : Nat} (hi : i < n) (hj : j < n) (h : (first + i) % n = (first + j) % n) : i = j := by
  have h1 := Nat.mod_add_div (first + i) n
  have h2 := Nat.mod_add_div (first + j) n
  rw [h] at h1
  have h3 : n * ((first + i) / n) + j = n * ((first + j) / n) + i := by omega
  have h4 : (first + i) / n = (first + j) / n := by
    rcases Nat.lt_trichotomy ((first + i) / n) ((first + j) / n) with g | g | g
    · have := Nat.mul_le_mul_left n (show (first + i) / n + 1 ≤ (first + j) / n by omega)
      rw [Nat.mul_add, Nat.mul_one] at this
      omega
    · exact g
    · have := Nat.mul_le_mul_left n (show (first + j) / n + 1 ≤ (first + i) / n by omega)
      rw [Nat.mul_add, Nat.mul_one] at this
      omega
  rw [h4] at h3
  omega
section
variable {es : List (Int × Int × Int)} {first n k : Nat} {x : Int × Int}
theorem PE.round (h : PE es 0 n x) (hn : 0 < n) : PR es first n 0 x := by
  have := h.len
  refine ⟨fun i hi => ⟨fun _ => Nat.zero_le _, fun _ => (h.mem _).2 ?_⟩, fun y hy => by have := (h.mem y).1 hy; omega, by omega, h.look⟩
  have := Nat.mod_lt (first + i) hn
  omega
theorem PR.next (h : PR es first n k x) (hn : (es.map (·.1)).Nodup) (hk : k < n) : PR (pcut es (1 + (((first + k) % n : Nat) : Int))) first n (k + 1) x := by
  have hin := (h.mem k hk).2 (Nat.le_refl _)
  have hl := length_cut hn hin
  have := h.len
  refine ⟨fun i hi => ?_, fun y hy => h.sub y (mem_cut.1 hy).1, by omega, fun y hy => ?_⟩
  · rw [mem_cut, h.mem i hi]
    constructor
    · rintro ⟨h1, h2⟩
      have : i ≠ k := fun e => h2 (by rw [e])
      omega
    · intro h1
      refine ⟨by omega, fun e => ?_⟩
      have := mod_inj (first := first) hi hk (by omega)
      omega
  · obtain ⟨h1, h2⟩ := mem_cut.1 hy
    rw [plook_cut es _ y h2]
    exact h.look y h1
end
theorem upd_upd {α : Type} (f : Nat → α) (i : Nat) (a b : α) : upd (upd f i a) i b = upd f i b := by
  funext j
  by_cases e : j = i
  · subst e; rw [upd_same, upd_same]
  · rw [upd_ne _ _ e, upd_ne _ _ e, upd_ne _ _ e]
/-- One node, had so often. -/
def On (c : Int) : Ar := ⟨10, upd (fun _ => Nd.zero) 1 ⟨6, 0, 0, 0, 0, 0, 0⟩, upd (fun _ => 0) 1 c, upd (fun _ => false) 1 true, [], 1, 1⟩
theorem on_make : (Ar.new 10).make ⟨6, 0, 0, 0, 0, 0, 0⟩ = (On 1, 1, 0) := rfl
theorem on_count {c : Int} : (On c).count 1 = c := rfl
theorem on_ok {c : Int} (h : 1 ≤ c) : (On c).Ok (c + 10) := by
  refine ⟨show 1 ≤ 10 by decide, show 10 ≤ 6000 by decide, fun i => ?_, fun h hh => (by cases hh), List.nodup_nil, fun i hi => ?_, ?_, ?_⟩
  · show 0 ≤ upd (fun _ => 0) 1 c i ∧ upd (fun _ => 0) 1 c i ≤ c + 10
    by_cases e : i = 1
    · subst e; rw [upd_same]; omega
    · rw [upd_ne _ _ e]; omega
  · show upd (fun _ => 0) 1 c i = 0
    by_cases e : i = 1
    · subst e
      have : upd (fun _ => false) 1 true 1 = false := hi
      rw [upd_same] at this; cases this
    · rw [upd_ne _ _ e]
  · show (1 : Int) = usedN 10 (upd (fun _ => false) 1 true)
    decide
  · show 0 ≤ (1 : Int) ∧ (1 : Int) ≤ c + 10
    omega
theorem on_keep {c : Int} (h : 1 ≤ c) : (On c).keep 1 = (On (c + 1), 0) := by
  unfold Ar.keep
  rw [on_count, if_neg (by omega)]
  congr 1
  show (⟨10, upd (fun _ => Nd.zero) 1 ⟨6, 0, 0, 0, 0, 0, 0⟩, upd (upd (fun _ => 0) 1 c) 1 (c + 1), upd (fun _ => false) 1 true, [], 1, 1⟩ : Ar) = On (c + 1)
  rw [upd_upd]
  rfl
theorem on_drop {c : Int} (h : 2 ≤ c) : (On c).drop 1 = (On (c - 1), 0) := by
  unfold Ar.drop
  rw [on_count, if_neg (by omega)]
  congr 1
  unfold Ar.drop1
  show (⟨10, _, upd (upd (fun _ => 0) 1 c) 1 (c - 1), _, if c - 1 = 0 then _ else [], 1, 1⟩ : Ar) = On (c - 1)
  rw [if_neg (by omega), upd_upd]
  rfl
theorem on_work (c : Int) (m : Nat) : (On c).work m = (On c, 0) := work_none rfl m
/-- The last that has it drops it; it is freed. -/
theorem on_last : ∃ t u, (On 1).drop 1 = (t, 0) ∧ t.Ok 11 ∧ t.work 9 = (u, 1) ∧ u.busy = 0 := by
  have ok := ok_drop (on_ok (c := 1) (by decide)) 1
  have hd : (On 1).drop 1 = ((On 1).drop1 1, 0) := rfl
  rw [hd] at ok
  exact ⟨(On 1).drop1 1, (((On 1).drop1 1).work 9).1, hd, ok, rfl, rfl⟩
end Go.Proofs.Ytjndhjmbdhfclaa
