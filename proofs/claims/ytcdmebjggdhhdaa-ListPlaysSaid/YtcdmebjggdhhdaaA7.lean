/- Make, whatever it is told. -/
import Derived.Test.YtcdmebjggdhhdaaA3
import Derived.Test.YtcdmebjggdhhdaaA5
import Derived.Test.YtcdmebjggdhhdaaA6
namespace Go.Proofs.Ytcdmebjggdhhdaa
open Go.RowKit
theorem make_any (K : Nat → Prop) (p : Nat) (s : Ar) (B : Int) (w : World) (x : Nd) (h : Ars w K p s) (hf : s.Ok B) (hB : B ≤ 1000000000000) :
    Calls Try.prog 52 #[.pointer (some ⟨p, 0, none⟩), x.val] w fun e w' => e = .returned (.tuple #[.int .i64 (s.make x).2.1, .int .i64 (s.make x).2.2]) ∧ Ars w' K p (s.make x).1 ∧ Kept K w w' := by
  unfold Ar.make
  by_cases h1 : x.tag < 1 ∨ 6 < x.tag
  · rw [if_pos h1]
    exact (make_tag p w x h1).mono fun e w' ⟨a, b⟩ => ⟨a, h.below b, Kept.of_below b K⟩
  · rw [if_neg h1]
    by_cases h2 : x.kids.any s.bad = true
    · rw [if_pos h2]
      exact (make_kid K p s w x h hf.n2 (by omega) (by omega) h2).mono fun e w' ⟨a, b⟩ => ⟨a, h.below b, Kept.of_below b K⟩
    · rw [if_neg h2]
      by_cases h3 : s.free = 0
      · rw [if_pos h3]
        exact (make_full K p s w x h hf.n2 (by omega) (by omega) (by simpa using h2) h3).mono fun e w' ⟨a, b⟩ => ⟨a, h.below b, Kept.of_below b K⟩
      · rw [if_neg h3]
        exact make_put K p s w x h hf.n2 (by omega) (by omega) (by simpa using h2) h3 (fun i => by have := hf.c i; omega) (by have := hf.busy; have := usedN_le s.n s.u; have := hf.n2; omega) (by have := hf.m; omega)

section
variable {K : Nat → Prop} {p : Nat} {s : Ar} {w : World}
theorem make_is {s' : Ar} {B h e : Int} (x : Nd) (hr : s.make x = (s', h, e)) (ha : Ars w K p s) (hf : s.Ok B) (hB : B ≤ 1000000000000) :
    Calls Try.prog 52 #[.pointer (some ⟨p, 0, none⟩), .agg #[.int .i64 x.tag, .int .i64 x.k0, .int .i64 x.k1, .int .i64 x.k2, .int .i64 x.k3, .int .u64 x.A, .int .u64 x.B]] w fun r w' => r = .returned (.tuple #[.int .i64 h, .int .i64 e]) ∧ Ars w' K p s' ∧ Kept K w w' := by
  have := make_any K p s B w x ha hf hB
  rw [hr] at this
  exact this
theorem keep_is {s' : Ar} {e : Int} (i : Int) (hr : s.keep i = (s', e)) (ha : Ars w K p s) (hf : s.Fit) :
    Calls Try.prog 48 #[.pointer (some ⟨p, 0, none⟩), .int .i64 i] w fun r w' => r = .returned (.int .i64 e) ∧ Ars w' K p s' ∧ Kept K w w' := by
  have := keep_any K p s w i ha hf
  rw [hr] at this
  exact this
theorem drop_is {s' : Ar} {e : Int} (i : Int) (hr : s.drop i = (s', e)) (ha : Ars w K p s) (hf : s.Fit) :
    Calls Try.prog 11 #[.pointer (some ⟨p, 0, none⟩), .int .i64 i] w fun r w' => r = .returned (.int .i64 e) ∧ Ars w' K p s' ∧ Kept K w w' := by
  have := drop_any K p s w i ha hf
  rw [hr] at this
  exact this
theorem work_is {s' : Ar} {B : Int} {n : Nat} {m : Int} (most : Int) (hr : s.work most.toNat = (s', n)) (hn : (n : Int) = m) (ha : Ars w K p s) (hf : s.Ok B) (hB : B ≤ 1000000000000) (hm : most ≤ 9223372036854775807) :
    Calls Try.prog 12 #[.pointer (some ⟨p, 0, none⟩), .int .i64 most] w fun r w' => r = .returned (.int .i64 m) ∧ Ars w' K p s' ∧ Kept K w w' := by
  have := work_any K p s B w most ha hf hB hm
  rw [hr] at this
  subst hn
  exact this
theorem get_is {x : Nd} {b : Bool} (i : Int) (hr : s.get i = (x, b)) (ha : Ars w K p s) (hf : s.Fit) :
    Calls Try.prog 40 #[.pointer (some ⟨p, 0, none⟩), .int .i64 i] w fun r w' => r = .returned (.tuple #[.agg #[.int .i64 x.tag, .int .i64 x.k0, .int .i64 x.k1, .int .i64 x.k2, .int .i64 x.k3, .int .u64 x.A, .int .u64 x.B], .bool b]) ∧ Ars w' K p s ∧ Below w.heap.size w w' := by
  have := get_any K p s w i ha hf.n
  rw [hr] at this
  exact this.mono fun r w' ⟨a, b⟩ => ⟨a, ha.below b, b⟩
theorem count_is {c : Int} (i : Int) (hr : s.count i = c) (ha : Ars w K p s) (hf : s.Fit) :
    Calls Try.prog 39 #[.pointer (some ⟨p, 0, none⟩), .int .i64 i] w fun r w' => r = .returned (.int .i64 c) ∧ w = w' := by
  have := count_any K p s i w ha hf.n
  rw [hr] at this
  exact this
theorem used_is {c : Int} (hr : s.busy = c) (ha : Ars w K p s) :
    Calls Try.prog 15 #[.pointer (some ⟨p, 0, none⟩)] w fun r w' => r = .returned (.int .i64 c) ∧ w = w' := by
  have := used_any K p s w ha
  rw [hr] at this
  exact this
theorem made_is {c : Int} (hr : s.made = c) (ha : Ars w K p s) :
    Calls Try.prog 18 #[.pointer (some ⟨p, 0, none⟩)] w fun r w' => r = .returned (.int .i64 c) ∧ w = w' := by
  have := made_any K p s w ha
  rw [hr] at this
  exact this
theorem pending_is {c : Int} (hr : (s.wt.length : Int) = c) (ha : Ars w K p s) :
    Calls Try.prog 17 #[.pointer (some ⟨p, 0, none⟩)] w fun r w' => r = .returned (.int .i64 c) ∧ w = w' := by
  have := pending_any K p s w ha
  rw [hr] at this
  exact this
theorem size_is {c : Int} (hr : (s.n : Int) = c) (ha : Ars w K p s) (hf : s.Fit) :
    Calls Try.prog 49 #[.pointer (some ⟨p, 0, none⟩)] w fun r w' => r = .returned (.int .i64 c) ∧ w = w' := by
  have := size_any K p s w ha hf.n
  rw [hr] at this
  exact this
end
end Go.Proofs.Ytcdmebjggdhhdaa
