/- Package sweep: what Audit and Leaks tell, in plain words; two lists of numbers that are the same. -/
import Derived.Test.YtjndhjmbdhfclaaSw7
import Derived.Test.YtjndhjmbdhfclaaAcc2
namespace Go.Proofs.Ytjndhjmbdhfclaa
set_option maxRecDepth 100000
open Go.RowKit

section
variable {s : Ar} {B : Int} {H : Nat → Nat}
theorem count_up (s : Ar) {m : Nat} (h : m + 1 ≤ s.n) : s.count ((m : Int) + 1) = s.c (m + 1) := by
  unfold Ar.count
  rw [if_neg (by omega), show ((m : Int) + 1).toNat = m + 1 by omega]
theorem sees_count (ok : s.Ok B) (k : Nat) : ∀ m, m ≤ s.n → (waitTo s m).count (k : Int) + (kidsOf s (liveTo s m)).count (k : Int) = sumN m (ctr s k)
  | 0, _ => rfl
  | m + 1, hm => by
    have ih := sees_count ok k m (by omega)
    have hc := count_up s hm
    unfold sumN
    rw [liveTo_succ, show waitTo s (m + 1) = waitTo s m ++ if s.u (m + 1) = true ∧ s.count ((m : Int) + 1) = 0 then (s.nd (m + 1)).kids else [] from rfl, hc]
    unfold kidsOf at ih ⊢
    rw [List.flatMap_append, List.count_append, List.count_append]
    have h0 := (ok.c (m + 1)).1
    cases hu : s.u (m + 1)
    · have := ok.fr _ hu
      rw [if_neg (by simp), if_neg (by omega)]
      simp only [ctr, hu, List.flatMap_nil, List.count_nil, Bool.false_eq_true, if_false]
      omega
    · by_cases e : s.c (m + 1) = 0
      · rw [if_pos ⟨rfl, e⟩, if_neg (by omega)]
        simp only [ctr, hu, List.flatMap_nil, List.count_nil, if_true]
        omega
      · rw [if_neg (fun h => e h.2), if_pos (by omega)]
        simp only [ctr, hu, List.flatMap_cons, List.flatMap_nil, List.append_nil, List.count_nil, if_true, show ((m : Int) + 1).toNat = m + 1 by omega]
        omega
theorem mem_live {x : Int} : x ∈ liveTo s s.n ↔ (1 ≤ x ∧ x ≤ s.n) ∧ s.count x > 0 := by
  unfold liveTo
  rw [List.mem_filter, mem_upto]
  simp
theorem seen_is (ok : s.Ok B) (acc : Acc s H) (held : List Int) {x : Int} (x1 : 1 ≤ x) (x2 : x ≤ s.n) :
    s.count x = (((held ++ waitTo s s.n ++ kidsOf s (liveTo s s.n)).count x : Nat) : Int) + H x.toNat - held.count x := by
  obtain ⟨k, rfl⟩ : ∃ k : Nat, (k : Int) = x := ⟨x.toNat, by omega⟩
  have h1 := sees_count ok k s.n (Nat.le_refl _)
  have h2 := acc.eq k (by omega) (by omega)
  rw [List.count_append, List.count_append]
  unfold Ar.count
  rw [if_neg (by omega), show ((k : Int)).toNat = k by omega, h2]
  unfold refs
  omega
/-- All is counted. -/
theorem audit_yes (ok : s.Ok B) (acc : Acc s H) {held : List Int} (hr : ∀ x, x ∈ held → 0 ≤ x ∧ x ≤ s.n) (hH : ∀ x, 1 ≤ x → x ≤ s.n → H x = held.count (x : Int)) : auditSees s held = true := by
  unfold auditSees
  rw [Bool.and_eq_true]
  constructor
  · rw [List.all_eq_true]
    intro x hx
    obtain ⟨x0, x2⟩ := hr x hx
    by_cases e : x = 0
    · simp [e]
    · have h1 := seen_is ok acc held (by omega) x2
      have h2 := hH x.toNat (by omega) (by omega)
      rw [show ((x.toNat : Nat) : Int) = x by omega] at h2
      have h3 : 1 ≤ held.count x := List.count_pos_iff.2 hx
      rw [List.count_append, List.count_append] at h1
      have : s.count x ≠ 0 := by omega
      simp [this]
  · rw [Bool.not_eq_true', List.any_eq_false]
    intro x hx
    obtain ⟨⟨x1, x2⟩, x3⟩ := mem_live.1 hx
    have h1 := seen_is ok acc held x1 x2
    have h2 := hH x.toNat (by omega) (by omega)
    rw [show ((x.toNat : Nat) : Int) = x by omega] at h2
    simp only [bne_iff_ne, ne_eq, Decidable.not_not]
    omega
/-- A wrong count is seen. -/
theorem audit_no (ok : s.Ok B) (acc : Acc s H) {held : List Int} {x : Int} (hx : s.count x ≠ 0) (hH : H x.toNat ≠ held.count x) : auditSees s held = false := by
  obtain ⟨x1, x2, x3⟩ := count_pos hx
  have h1 := seen_is ok acc held x1 x2
  have hc := (ok.c x.toNat).1
  unfold auditSees
  rw [Bool.and_eq_false_iff]
  right
  rw [Bool.not_eq_false', List.any_eq_true]
  refine ⟨x, mem_live.2 ⟨⟨x1, x2⟩, by omega⟩, ?_⟩
  simp only [bne_iff_ne, ne_eq]
  omega
/-- Nothing is live. -/
theorem live_none (h : ∀ x : Int, s.count x = 0) : liveTo s s.n = [] := by
  rw [List.eq_nil_iff_forall_not_mem]
  intro x hx
  have := (mem_live.1 hx).2
  rw [h x] at this
  omega
end
section
variable {w : World}
set_option maxHeartbeats 4000000 in
theorem same_ints_is {va vb : Value} {xs : List Int} (ha : Ints w va xs) (hb : Ints w vb xs) (hl : xs.length ≤ 1000000) :
    Calls Try.prog 32 #[va, vb] w fun e w' => e = .returned (.bool true) ∧ ∃ q, w' = w.drewN q := by
  obtain ⟨L, hL⟩ : ∃ L, Hid (xs.length = L) := ⟨_, rfl⟩
  have hl' : L ≤ 1000000 := hL.out ▸ hl
  have Ha := Lib.hid ha
  have Hb := Lib.hid hb
  obtain ⟨aa, ca, rfl⟩ := ha.slice
  obtain ⟨ab, cb, rfl⟩ := hb.slice
  rw [hL.out] at Ha Hb ⊢
  clear ha hb hl
  go_enter Try.func32, Try.ntmps32
  go_wp2_with fail
  go_loopw [5] (fun i W => ∃ t q : Nat, i = .int .i64 t ∧ t ≤ L ∧ W = w.drewN q) (fun i _ => L - (intOf i).toNat)
  case atStart => exact ⟨0, 0, rfl, by omega, rfl⟩
  case round =>
    obtain ⟨t, q, rfl, t1, rfl⟩ := hrel
    by_cases ht : t < L
    · rcases Ha.out with ⟨_, e2⟩ | ⟨b1, o1, c1, e1, h1, h2, h3⟩
      · have := hL.out; rw [e2] at this; simp at this; omega
      · rcases Hb.out with ⟨_, e2⟩ | ⟨b2, o2, c2, f1, g1, g2, g3⟩
        · have := hL.out; rw [e2] at this; simp at this; omega
        · injection e1 with e1 _ e3
          injection f1 with f1 _ f3
          subst e1 e3 f1 f3
          have hca := h3 t (by rw [hL.out]; exact ht)
          have hcb := g3 t (by rw [hL.out]; exact ht)
          rw [hL.out] at h2 g2
          have i0 : (0 : Int) ≤ (t : Int) := by omega
          have i1 : (t : Int) < (L : Int) := by omega
          have cA : ∀ q', (w.drewN q').cell? ⟨b1, o1 + t, none⟩ = some (.int .i64 (xs.getD t 0)) := fun _ => hca
          have cB : ∀ q', (w.drewN q').cell? ⟨b2, o2 + t, none⟩ = some (.int .i64 (xs.getD t 0)) := fun _ => hcb
          clear h3 g3 h1 g1
          generalize xs.getD t 0 = y at *
          go_wp2_with fail
          go_quiet (fail)
          clear cA cB
          go_wp2_with fail
          go_roundw
          case rel => exact ⟨t + 1, _, by go_num, by omega, rfl⟩
          case measure => simp [intOf]; omega
    · obtain rfl : t = L := by omega
      go_wp2_with fail
      go_ret
      exact ⟨rfl, q, rfl⟩
end
end Go.Proofs.Ytjndhjmbdhfclaa
