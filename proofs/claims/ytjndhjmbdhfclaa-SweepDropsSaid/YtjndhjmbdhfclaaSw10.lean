/- Nodes without kids that are made and dropped, and wait: plain words. -/
import Derived.Test.YtjndhjmbdhfclaaSw9
namespace Go.Proofs.Ytjndhjmbdhfclaa
set_option maxRecDepth 100000
open Go.RowKit

structure Wv (s : Ar) (k : Nat) (B : Int) : Prop where
  ok : s.Ok B
  n : s.n = 30
  acc : Acc s fun _ => 0
  led : Led s
  leaf : ∀ i, (s.nd i).kids = [0, 0, 0, 0]
  wl : s.wt.length = k
theorem work_len : ∀ (m : Nat) (s : Ar), (∀ i, (s.nd i).kids = [0, 0, 0, 0]) → (s.work m).2 = min m s.wt.length ∧ (s.work m).1.wt.length = s.wt.length - m ∧ (∀ i, ((s.work m).1.nd i).kids = [0, 0, 0, 0]) ∧ (s.work m).1.n = s.n
  | 0, s, h => ⟨by simp [Ar.work], by simp [Ar.work], h, rfl⟩
  | m + 1, s, h => by
    unfold Ar.work
    cases hw : s.wt with
    | nil => exact ⟨by simp, by simp [hw], h, rfl⟩
    | cons x r =>
      have e : s.free1 x r = s.pop x r := by rw [free1_eq, h, drops_zero]
      have hl : ∀ i, ((s.pop x r).nd i).kids = [0, 0, 0, 0] := fun i => by
        show (upd s.nd x.toNat Nd.zero i).kids = _
        unfold upd
        split
        · rfl
        · exact h i
      obtain ⟨a, b, c, d⟩ := work_len m (s.pop x r) hl
      have hwr : (s.pop x r).wt = r := rfl
      rw [hwr] at a b
      simp only [e]
      refine ⟨by rw [a, List.length_cons]; omega, by rw [b, List.length_cons]; omega, c, d⟩
section
variable {s : Ar} {k : Nat} {B : Int}
theorem Wv.work (h : Wv s k B) (m : Nat) : ∃ s', s.work m = (s', min m k) ∧ Wv s' (k - min m k) B := by
  obtain ⟨a, b, c, d⟩ := work_len m s h.leaf
  rw [h.wl] at a b
  refine ⟨(s.work m).1, by rw [← a], ok_work m h.ok, d.trans h.n, acc_work rfl m h.acc h.ok, led_work m h.led h.ok, c, ?_⟩
  rw [b]
  omega
theorem Wv.none (h : Wv s k B) (x : Int) : s.count x = 0 := by
  by_cases e : s.count x = 0
  · exact e
  · obtain ⟨x1, x2, x3⟩ := count_pos e
    have h1 := h.acc.eq x.toNat (by omega) (by omega)
    have : refs s x.toNat = 0 := sumN_zero fun i _ _ => by
      unfold ctr
      rw [h.leaf i]
      split
      · rw [List.count_eq_zero]; intro e; simp at e; omega
      · rfl
    rw [x3, h1, this]
    rfl
theorem Wv.live (h : Wv s k B) : liveTo s s.n = [] := live_none h.none
theorem Wv.audit (h : Wv s k B) : auditSees s [] = true := audit_yes h.ok h.acc (fun x hx => by cases hx) fun x _ _ => by simp
theorem wv_new : Wv (Ar.new 30) 0 0 := ⟨ok_new (by decide) (by decide), rfl, acc_new 30, led_new 30, fun _ => rfl, rfl⟩
theorem Wv.step (h : Wv s k B) (hu : ∀ i, 1 ≤ i → i ≤ 30 → s.u i = decide (i ≤ k)) (hk : k < 30) :
    ∃ t t', s.make ⟨1, 0, 0, 0, 0, 0, 0⟩ = (t, (k : Int) + 1, 0) ∧ t.drop ((k : Int) + 1) = (t', 0) ∧ t.Ok (B + 4) ∧ Wv t' (k + 1) (B + 4) ∧ ∀ i, 1 ≤ i → i ≤ 30 → t'.u i = decide (i ≤ k + 1) := by
  have hf : s.free = k + 1 := free_is (by omega) (by rw [h.n]; omega) (by rw [hu _ (by omega) (by omega)]; simp) fun j j1 j2 => by rw [hu j j1 (by omega)]; simp; omega
  have hf0 : s.free ≠ 0 := by omega
  have hm := make_leaf (s := s) (x := ⟨1, 0, 0, 0, 0, 0, 0⟩) (by decide) rfl hf0
  have okm := ok_make h.ok ⟨1, 0, 0, 0, 0, 0, 0⟩
  have ldm := led_make h.led h.ok h.acc ⟨1, 0, 0, 0, 0, 0, 0⟩
  rw [hm] at okm ldm
  have acm := acc_put h.acc h.ok (x := ⟨1, 0, 0, 0, 0, 0, 0⟩) (by simp [Nd.kids, Ar.bad]) hf0
  rw [hf] at acm okm ldm hm
  have hn : (s.put (k + 1) ⟨1, 0, 0, 0, 0, 0, 0⟩).n = 30 := h.n
  obtain ⟨d1, d2⟩ := acc_drop acm (i := (k : Int) + 1) (by omega) (by omega) (by rw [show ((k : Int) + 1).toNat = k + 1 by omega, upd_same]; omega)
  rw [show ((k : Int) + 1).toNat = k + 1 by omega] at d2
  have hc : (s.put (k + 1) ⟨1, 0, 0, 0, 0, 0, 0⟩).c (k + 1) = 1 := upd_same _ _ _
  have hcc : (s.put (k + 1) ⟨1, 0, 0, 0, 0, 0, 0⟩).count ((k : Int) + 1) ≠ 0 := by
    unfold Ar.count
    rw [if_neg (by omega), show ((k : Int) + 1).toNat = k + 1 by omega, hc]; decide
  refine ⟨_, _, hm, Prod.ext rfl d1, okm, ⟨ok_drop okm _, (drop_n _ _).trans h.n, d2.congr fun i i1 => ?_, led_drop ldm _, fun i => ?_, ?_⟩, fun i i1 i2 => ?_⟩
  · unfold upd
    split
    · split <;> rfl
    · rfl
  · rw [drop_nd]
    show (upd s.nd (k + 1) _ i).kids = _
    unfold upd
    split
    · rfl
    · exact h.leaf i
  · unfold Ar.drop
    rw [if_neg hcc]
    unfold Ar.drop1
    rw [show ((k : Int) + 1).toNat = k + 1 by omega, hc]
    show (s.wt ++ [(k : Int) + 1]).length = _
    rw [List.length_append, h.wl]
    rfl
  · rw [drop_u]
    show upd s.u (k + 1) true i = _
    by_cases e : i = k + 1
    · subst e; rw [upd_same]; simp
    · rw [upd_ne _ _ e, hu i i1 i2]
      congr 1
      apply propext
      omega
theorem clean_is {K : Nat → Prop} {p : Nat} {w : World} {s' : Ar} {n : Nat} {m : Int} (most : Int) (hr : s.work most.toNat = (s', n)) (hn : (n : Int) = m) (ha : Ars w K p s) (hf : s.Ok B) (hB : B ≤ 1000000000000) (hm : most ≤ 9223372036854775807) :
    Calls Try.prog 37 #[.pointer (some ⟨p, 0, none⟩), .int .i64 most] w fun r w' => r = .returned (.int .i64 m) ∧ Ars w' K p s' ∧ Kept K w w' := by
  have H := Lib.hid (work_is most hr hn ha hf hB hm)
  clear ha hr hn hm
  go_enter Try.func37, Try.ntmps37
  go_wp2_with fail
  refine H.out.mono ?_
  clear H
  rintro e w1 ⟨rfl, ha, hk⟩
  go_wp2_with fail
  go_ret
  exact ⟨rfl, ha, hk⟩
end
end Go.Proofs.Ytjndhjmbdhfclaa
