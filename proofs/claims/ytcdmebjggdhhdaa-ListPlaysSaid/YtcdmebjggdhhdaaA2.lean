/- What Make answers where it refuses: a tag that is none, a kid that is none, no free node. -/
import Derived.Test.YtcdmebjggdhhdaaA1
namespace Go.Proofs.Ytcdmebjggdhhdaa
open Go.RowKit

theorem ix4_0 (a b c d : Value) (w : World) : (Instr.index 61 (.agg #[a, b, c, d]) (.int .i64 0)).run Try.prog w = .ok a w := by kernel_rfl
theorem ix4_1 (a b c d : Value) (w : World) : (Instr.index 61 (.agg #[a, b, c, d]) (.int .i64 1)).run Try.prog w = .ok b w := by kernel_rfl
theorem ix4_2 (a b c d : Value) (w : World) : (Instr.index 61 (.agg #[a, b, c, d]) (.int .i64 2)).run Try.prog w = .ok c w := by kernel_rfl
theorem ix4_3 (a b c d : Value) (w : World) : (Instr.index 61 (.agg #[a, b, c, d]) (.int .i64 3)).run Try.prog w = .ok d w := by kernel_rfl
theorem ix4 (x : Nd) (k : Nat) (hk : k < 4) : ∃ y, x.kids[k]? = some y ∧ ∀ w, (Instr.index 61 (.agg #[.int .i64 x.k0, .int .i64 x.k1, .int .i64 x.k2, .int .i64 x.k3]) (.int .i64 k)).run Try.prog w = .ok (.int .i64 y) w := by
  match k, hk with
  | 0, _ => exact ⟨x.k0, rfl, ix4_0 _ _ _ _⟩
  | 1, _ => exact ⟨x.k1, rfl, ix4_1 _ _ _ _⟩
  | 2, _ => exact ⟨x.k2, rfl, ix4_2 _ _ _ _⟩
  | 3, _ => exact ⟨x.k3, rfl, ix4_3 _ _ _ _⟩

set_option maxHeartbeats 400000 in
theorem make_tag (p : Nat) (w : World) (x : Nd) (h0 : x.tag < 1 ∨ 6 < x.tag) :
    Calls Try.prog 52 #[.pointer (some ⟨p, 0, none⟩), x.val] w fun e w' => e = .returned (.tuple #[.int .i64 0, .int .i64 1]) ∧ Below w.heap.size w w' := by
  unfold Nd.val
  by_cases h1 : x.tag < 1
  · go_enter Try.func52, Try.ntmps52
    go_wp2_with fail
    go_ret2
    exact ⟨rfl, (Below.refl _ _).alloc (Nat.le_refl _) _⟩
  · have h2 : 6 < x.tag := by omega
    clear h0
    go_enter Try.func52, Try.ntmps52
    go_wp2_with fail
    go_ret2
    exact ⟨rfl, (Below.refl _ _).alloc (Nat.le_refl _) _⟩

/-- The first k kids may be. -/
def KidsOk (s : Ar) (x : Nd) (k : Nat) : Prop := (x.kids.take k).any s.bad = false
theorem KidsOk.zero (s : Ar) (x : Nd) : KidsOk s x 0 := rfl
theorem KidsOk.next {s : Ar} {x : Nd} {k : Nat} {y : Int} (h : KidsOk s x k) (hy : x.kids[k]? = some y) (hb : y = 0 ∨ s.count y ≠ 0) : KidsOk s x (k + 1) := by
  unfold KidsOk at h ⊢
  rw [List.take_add_one, hy, List.any_append, h]
  simp [Ar.bad]
  omega
theorem KidsOk.all {s : Ar} {x : Nd} (h : KidsOk s x 4) : x.kids.any s.bad = false := h

set_option maxHeartbeats 1000000 in
theorem make_kid (K : Nat → Prop) (p : Nat) (s : Ar) (w : World) (x : Nd) (h : Ars w K p s) (hn : s.n ≤ 6000) (h0 : 1 ≤ x.tag) (h1 : x.tag ≤ 6) (hb : x.kids.any s.bad = true) :
    Calls Try.prog 52 #[.pointer (some ⟨p, 0, none⟩), x.val] w fun e w' => e = .returned (.tuple #[.int .i64 0, .int .i64 9]) ∧ Below w.heap.size w w' := by
  have Hs := fun i o => Lib.hid (count_any K p s i (w.alloc o) (h.alloc o) hn)
  have Hb := Lib.hid hb
  clear hb h
  unfold Nd.val
  go_enter Try.func52, Try.ntmps52
  go_wp2_with fail
  go_loop [21] (fun i => ∃ k : Nat, i = .int .i64 k ∧ k ≤ 4 ∧ KidsOk s x k) (fun i => 4 - (intOf i).toNat)
  case atStart => exact ⟨0, rfl, by omega, KidsOk.zero _ _⟩
  case round =>
    obtain ⟨k, rfl, k4, hk⟩ := hrel
    by_cases hlt : k < 4
    · obtain ⟨y, hy, hix⟩ := ix4 x k hlt
      have Hy := Lib.hid hy
      clear hy
      by_cases g0 : y = 0
      · have g : (y == 0) = true := by simpa using g0
        have g' : (y != 0) = false := by simpa using g0
        have Hg := Lib.hid g0
        clear g0
        go_wp2_with fail
        go_round
        case rel => exact ⟨k + 1, by go_num, by omega, hk.next Hy.out (.inl Hg.out)⟩
        case measure => simp [intOf]; omega
      · have g : (y == 0) = false := by simpa using g0
        have g' : (y != 0) = true := by simpa using g0
        have gc := Hs y
        clear Hs
        by_cases g1 : s.count y = 0
        · rw [g1] at gc
          clear g1 g0
          go_wp2_with (go_at_call 39; refine (gc _).out.mono ?_; rintro e w' ⟨rfl, rfl⟩)
          go_ret2
          exact ⟨rfl, (Below.refl _ _).alloc (Nat.le_refl _) _⟩
        · have g2 : (s.count y == 0) = false := by simpa using g1
          have Hg := Lib.hid g1
          clear g0 g1
          go_wp2_with (go_at_call 39; refine (gc _).out.mono ?_; rintro e w' ⟨rfl, rfl⟩)
          go_round
          case rel => exact ⟨k + 1, by go_num, by omega, hk.next Hy.out (.inr Hg.out)⟩
          case measure => simp [intOf]; omega
    · have e : k = 4 := by omega
      subst e
      have := Hb.out
      rw [hk.all] at this
      exact absurd this (by decide)

set_option maxHeartbeats 1000000 in
theorem make_full (K : Nat → Prop) (p : Nat) (s : Ar) (w : World) (x : Nd) (h : Ars w K p s) (hn : s.n ≤ 6000) (h0 : 1 ≤ x.tag) (h1 : x.tag ≤ 6) (hb : x.kids.any s.bad = false) (hf : s.free = 0) :
    Calls Try.prog 52 #[.pointer (some ⟨p, 0, none⟩), x.val] w fun e w' => e = .returned (.tuple #[.int .i64 0, .int .i64 2]) ∧ Below w.heap.size w w' := by
  have Hs := fun i o => Lib.hid (count_any K p s i (w.alloc o) (h.alloc o) hn)
  have Hf := fun o => (free_any K p s (w.alloc o) (h.alloc o) hn)
  rw [hf] at Hf
  replace Hf := fun o => Lib.hid (Hf o)
  have Hb := Lib.hid hb
  clear hb h hf
  unfold Nd.val
  go_enter Try.func52, Try.ntmps52
  go_wp2_with fail
  go_loop [21] (fun i => ∃ k : Nat, i = .int .i64 k ∧ k ≤ 4 ∧ KidsOk s x k) (fun i => 4 - (intOf i).toNat)
  case atStart => exact ⟨0, rfl, by omega, KidsOk.zero _ _⟩
  case round =>
    obtain ⟨k, rfl, k4, hk⟩ := hrel
    by_cases hlt : k < 4
    · obtain ⟨y, hy, hix⟩ := ix4 x k hlt
      have Hy := Lib.hid hy
      clear hy
      by_cases g0 : y = 0
      · have g : (y == 0) = true := by simpa using g0
        have g' : (y != 0) = false := by simpa using g0
        have Hg := Lib.hid g0
        clear g0
        go_wp2_with fail
        go_round
        case rel => exact ⟨k + 1, by go_num, by omega, hk.next Hy.out (.inl Hg.out)⟩
        case measure => simp [intOf]; omega
      · have g : (y == 0) = false := by simpa using g0
        have g' : (y != 0) = true := by simpa using g0
        have gc := Hs y
        clear Hs
        have g1 : s.count y ≠ 0 := by
          intro e
          have := Hb.out
          rw [List.any_eq_false] at this
          exact this y (List.mem_of_getElem? Hy.out) (bad_iff.2 ⟨g0, e⟩)
        have g2 : (s.count y == 0) = false := by simpa using g1
        have Hg := Lib.hid g1
        clear g0 g1
        go_wp2_with (go_at_call 39; refine (gc _).out.mono ?_; rintro e w' ⟨rfl, rfl⟩)
        go_round
        case rel => exact ⟨k + 1, by go_num, by omega, hk.next Hy.out (.inr Hg.out)⟩
        case measure => simp [intOf]; omega
    · obtain rfl : k = 4 := by omega
      go_wp2_with (go_at_call 64; refine (Hf _).out.mono ?_; rintro e w' ⟨rfl, rfl⟩)
      go_ret2
      exact ⟨rfl, (Below.refl _ _).alloc (Nat.le_refl _) _⟩
end Go.Proofs.Ytcdmebjggdhhdaa
