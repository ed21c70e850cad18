/- What the arena's small methods answer: how many nodes there are, a node's count, the least free handle, a node; how many are used, wait, were made; a node that is counted once more. -/
import Derived.Test.YtcdmebjggdhhdaaMem
import Derived.Test.YtcdmebjggdhhdaaProg
namespace Go.Proofs.Ytcdmebjggdhhdaa
open Go.RowKit
set_option maxHeartbeats 400000 in
theorem size_any (K : Nat → Prop) (p : Nat) (s : Ar) (w : World) (h : Ars w K p s) (hn : s.n ≤ 6000) :
    Calls Try.prog 49 #[.pointer (some ⟨p, 0, none⟩)] w fun e w' => e = .returned (.int .i64 s.n) ∧ w = w' := by
  obtain ⟨N, C, U, wv, h⟩ := h
  have c0 := h.c0
  clear h
  go_enter Try.func49, Try.ntmps49
  go_wp2
  go_ret
  exact ⟨rfl, rfl⟩

set_option maxHeartbeats 400000 in
theorem count_any (K : Nat → Prop) (p : Nat) (s : Ar) (i : Int) (w : World) (h : Ars w K p s) (hn : s.n ≤ 6000) :
    Calls Try.prog 39 #[.pointer (some ⟨p, 0, none⟩), .int .i64 i] w fun e w' => e = .returned (.int .i64 (s.count i)) ∧ w = w' := by
  have Hs := Lib.hid (size_any K p s w h hn)
  obtain ⟨N, C, U, wv, h⟩ := h
  have c1 := h.c1
  have H := Lib.hid h
  clear h
  by_cases i1 : i < 1
  · have e : s.count i = 0 := if_pos (Or.inl i1)
    rw [e]
    clear e
    go_enter Try.func39, Try.ntmps39
    go_wp2_with (go_at_call 49; refine Hs.out.mono ?_; rintro e w' ⟨rfl, rfl⟩)
    go_ret
    exact ⟨rfl, rfl⟩
  · by_cases i2 : (s.n : Int) < i
    · have e : s.count i = 0 := if_pos (Or.inr i2)
      rw [e]
      clear e
      go_enter Try.func39, Try.ntmps39
      go_wp2_with (go_at_call 49; refine Hs.out.mono ?_; rintro e w' ⟨rfl, rfl⟩)
      go_ret
      exact ⟨rfl, rfl⟩
    · have e : s.count i = s.c i.toNat := if_neg (by omega)
      rw [e]
      have cc := H.out.count (i := i.toNat) (by omega)
      clear e
      go_enter Try.func39, Try.ntmps39
      go_wp2_with (go_at_call 49; refine Hs.out.mono ?_; rintro e w' ⟨rfl, rfl⟩)
      go_ret
      exact ⟨rfl, rfl⟩

set_option maxHeartbeats 400000 in
theorem free_any (K : Nat → Prop) (p : Nat) (s : Ar) (w : World) (h : Ars w K p s) (hn : s.n ≤ 6000) :
    Calls Try.prog 64 #[.pointer (some ⟨p, 0, none⟩)] w fun e w' => e = .returned (.int .i64 s.free) ∧ w = w' := by
  have Hs := Lib.hid (size_any K p s w h hn)
  obtain ⟨N, C, U, wv, h⟩ := h
  have c2 := h.c2
  have H := Lib.hid h
  clear h
  go_enter Try.func64, Try.ntmps64
  go_wp2_with fail
  go_loop [3] (fun i => ∃ k : Nat, i = .int .i64 k ∧ 1 ≤ k ∧ k ≤ s.n + 1 ∧ Hid (s.free = s.freeFrom (s.n + 1 - k) k)) (fun i => s.n + 1 - (intOf i).toNat)
  case atStart => exact ⟨1, rfl, by omega, by omega, rfl⟩
  case round =>
    obtain ⟨k, rfl, k1, k2, hk⟩ := hrel
    by_cases hlt : k ≤ s.n
    · have hc := H.out.used hlt
      have hstep : s.freeFrom (s.n + 1 - k) k = if s.u k = true then s.freeFrom (s.n + 1 - (k + 1)) (k + 1) else k := by
        rw [show s.n + 1 - k = (s.n + 1 - (k + 1)) + 1 by omega]; rfl
      have Hk : Hid (s.free = if s.u k = true then s.freeFrom (s.n + 1 - (k + 1)) (k + 1) else k) := hk.out.trans hstep
      clear hk hstep
      cases hb : s.u k
      · rw [hb] at hc Hk
        clear hb
        go_wp2_with (go_at_call 49; refine Hs.out.mono ?_; rintro e w' ⟨rfl, rfl⟩)
        go_ret
        exact ⟨by rw [Hk.out]; simp, rfl⟩
      · rw [hb] at hc Hk
        clear hb
        go_wp2_with (go_at_call 49; refine Hs.out.mono ?_; rintro e w' ⟨rfl, rfl⟩)
        go_round
        case rel => exact ⟨k + 1, by go_num, by omega, by omega, by simpa using Hk⟩
        case measure => simp [intOf]; omega
    · have Hk : Hid (s.free = 0) := by have := hk.out; rwa [show s.n + 1 - k = 0 by omega] at this
      clear hk
      go_wp2_with (go_at_call 49; refine Hs.out.mono ?_; rintro e w' ⟨rfl, rfl⟩)
      go_ret
      exact ⟨by rw [Hk.out]; rfl, rfl⟩

set_option maxHeartbeats 400000 in
theorem keep_no (K : Nat → Prop) (p : Nat) (s : Ar) (w : World) (i : Int) (h : Ars w K p s) (hn : s.n ≤ 6000) (h0 : s.count i = 0) :
    Calls Try.prog 48 #[.pointer (some ⟨p, 0, none⟩), .int .i64 i] w fun e w' => e = .returned (.int .i64 9) ∧ w = w' := by
  have hc := count_any K p s i w h hn
  rw [h0] at hc
  have Hs := Lib.hid hc
  clear hc h h0
  go_enter Try.func48, Try.ntmps48
  go_wp2_with (go_at_call 39; refine Hs.out.mono ?_; rintro e w' ⟨rfl, rfl⟩)
  go_ret
  exact ⟨rfl, rfl⟩
theorem count_in {s : Ar} {i : Int} (h0 : s.count i ≠ 0) : 1 ≤ i ∧ i ≤ s.n ∧ s.count i = s.c i.toNat := by
  unfold Ar.count at h0 ⊢
  by_cases h : i < 1 ∨ (s.n : Int) < i
  · rw [if_pos h] at h0; exact absurd rfl h0
  · rw [if_neg h]; exact ⟨by omega, by omega, rfl⟩

set_option maxHeartbeats 400000 in
theorem keep_yes (K : Nat → Prop) (p : Nat) (s : Ar) (w : World) (i : Int) (h : Ars w K p s) (hn : s.n ≤ 6000) (h0 : s.count i ≠ 0) (hB : 0 ≤ s.c i.toNat ∧ s.c i.toNat ≤ 1000000000000) :
    Calls Try.prog 48 #[.pointer (some ⟨p, 0, none⟩), .int .i64 i] w fun e w' => e = .returned (.int .i64 0) ∧ Ars w' K p { s with c := upd s.c i.toNat (s.c i.toNat + 1) } ∧ Kept K w w' := by
  have hc := count_any K p s i w h hn
  obtain ⟨i1, i2, e0⟩ := count_in h0
  rw [e0] at hc
  have h0' : (s.c i.toNat == 0) = false := by rw [← e0]; simpa using h0
  have Hs := Lib.hid hc
  obtain ⟨N, C, U, wv, h⟩ := h
  have c1 := h.c1
  have cc := h.count (i := i.toNat) (by omega)
  have cf := h.fC i.toNat
  obtain ⟨b1, b2⟩ := hB
  have H := Lib.hid h
  clear h hc h0 e0
  go_enter Try.func48, Try.ntmps48
  go_wp2_with (go_at_call 39; refine Hs.out.mono ?_; rintro e w' ⟨rfl, rfl⟩)
  go_ret
  exact ⟨rfl, (H.out.setC _ _).ars, (Kept.refl _ _).setCell (.inl H.out.kC) _⟩

set_option maxHeartbeats 400000 in
theorem used_any (K : Nat → Prop) (p : Nat) (s : Ar) (w : World) (h : Ars w K p s) :
    Calls Try.prog 15 #[.pointer (some ⟨p, 0, none⟩)] w fun e w' => e = .returned (.int .i64 s.busy) ∧ w = w' := by
  obtain ⟨N, C, U, wv, h⟩ := h
  have c0 := h.c4
  clear h
  go_enter Try.func15, Try.ntmps15
  go_wp2
  go_ret
  exact ⟨rfl, rfl⟩
set_option maxHeartbeats 400000 in
theorem made_any (K : Nat → Prop) (p : Nat) (s : Ar) (w : World) (h : Ars w K p s) :
    Calls Try.prog 18 #[.pointer (some ⟨p, 0, none⟩)] w fun e w' => e = .returned (.int .i64 s.made) ∧ w = w' := by
  obtain ⟨N, C, U, wv, h⟩ := h
  have c0 := h.c5
  clear h
  go_enter Try.func18, Try.ntmps18
  go_wp2
  go_ret
  exact ⟨rfl, rfl⟩
theorem Wait.slice {w : World} {K : Nat → Prop} {C : Nat} {v : Value} {l : List Int} (h : Wait w K C v l) : ∃ a c, v = .slice a l.length c := by
  rcases h with ⟨rfl, rfl⟩ | ⟨g, off, cap, cs, rfl, _⟩
  · exact ⟨_, _, rfl⟩
  · exact ⟨_, _, rfl⟩
set_option maxHeartbeats 400000 in
theorem pending_any (K : Nat → Prop) (p : Nat) (s : Ar) (w : World) (h : Ars w K p s) :
    Calls Try.prog 17 #[.pointer (some ⟨p, 0, none⟩)] w fun e w' => e = .returned (.int .i64 s.wt.length) ∧ w = w' := by
  obtain ⟨N, C, U, wv, h⟩ := h
  obtain ⟨a, c, rfl⟩ := h.hW.slice
  have c0 := h.c3
  clear h
  go_enter Try.func17, Try.ntmps17
  go_wp2
  go_ret
  exact ⟨rfl, rfl⟩
set_option maxHeartbeats 1000000 in
theorem get_any (K : Nat → Prop) (p : Nat) (s : Ar) (w : World) (i : Int) (h : Ars w K p s) (hn : s.n ≤ 6000) :
    Calls Try.prog 40 #[.pointer (some ⟨p, 0, none⟩), .int .i64 i] w fun e w' => e = .returned (.tuple #[(s.get i).1.val, .bool (s.get i).2]) ∧ Below w.heap.size w w' := by
  have Hs := fun o => Lib.hid (size_any K p s (w.alloc o) (h.alloc o) hn)
  have hp : p < w.heap.size := by obtain ⟨N, C, U, wv, h⟩ := h; exact lt_heap h.hp
  by_cases i1 : i < 1
  · have e : s.get i = (Nd.zero, false) := if_pos (Or.inl i1)
    rw [e]
    clear e h
    go_enter Try.func40, Try.ntmps40
    go_wp2_with (go_at_call 49; refine (Hs _).out.mono ?_; rintro e w' ⟨rfl, rfl⟩)
    exact bodyPost_ret (v := .tuple #[Nd.zero.val, .bool false]) (by simp [results, Try.results40, go_sem, Nd.val, Nd.zero]) rfl ⟨rfl, (Below.refl _ _).alloc (Nat.le_refl _) _⟩
  by_cases i2 : (s.n : Int) < i
  · have e : s.get i = (Nd.zero, false) := if_pos (Or.inr (Or.inl i2))
    rw [e]
    clear e h
    go_enter Try.func40, Try.ntmps40
    go_wp2_with (go_at_call 49; refine (Hs _).out.mono ?_; rintro e w' ⟨rfl, rfl⟩)
    exact bodyPost_ret (v := .tuple #[Nd.zero.val, .bool false]) (by simp [results, Try.results40, go_sem, Nd.val, Nd.zero]) rfl ⟨rfl, (Below.refl _ _).alloc (Nat.le_refl _) _⟩
  obtain ⟨N, C, U, wv, h⟩ := h
  have c2 : ∀ o, (w.alloc o).cell? ⟨p, 2, none⟩ = some (.slice (some ⟨U, 0, none⟩) (s.n + 1) (s.n + 1)) := fun o => (h.alloc o).c2
  have cu : ∀ o, (w.alloc o).cell? ⟨U, i.toNat, none⟩ = some (.bool (s.u i.toNat)) := fun o => (h.alloc o).used (by omega)
  have H := Lib.hid h
  clear h
  cases hu : s.u i.toNat
  · have e : s.get i = (Nd.zero, false) := if_pos (Or.inr (Or.inr hu))
    rw [e]
    rw [hu] at cu
    clear e hu
    go_enter Try.func40, Try.ntmps40
    go_wp2_with (go_at_call 49; refine (Hs _).out.mono ?_; rintro e w' ⟨rfl, rfl⟩)
    exact bodyPost_ret (v := .tuple #[Nd.zero.val, .bool false]) (by simp [results, Try.results40, go_sem, Nd.val, Nd.zero]) rfl ⟨rfl, (Below.refl _ _).alloc (Nat.le_refl _) _⟩
  · have e : s.get i = (s.nd i.toNat, true) := if_neg (by rw [hu]; simp; omega)
    rw [e]
    rw [hu] at cu
    clear e hu
    have c0 : ∀ o, (w.alloc o).cell? ⟨p, 0, none⟩ = some (.slice (some ⟨N, 0, none⟩) (s.n + 1) (s.n + 1)) := fun o => (H.out.alloc o).c0
    have n0 : ∀ o, (w.alloc o).cell? ⟨N, i.toNat * 7, none⟩ = some (.int .i64 (s.nd i.toNat).tag) := fun o => (H.out.alloc o).node (j := 0) (by omega) (by omega)
    have n1 : ∀ o, (w.alloc o).cell? ⟨N, i.toNat * 7 + 1, none⟩ = some (.int .i64 (s.nd i.toNat).k0) := fun o => (H.out.alloc o).node (j := 1) (by omega) (by omega)
    have n2 : ∀ o, (w.alloc o).cell? ⟨N, i.toNat * 7 + 2, none⟩ = some (.int .i64 (s.nd i.toNat).k1) := fun o => (H.out.alloc o).node (j := 2) (by omega) (by omega)
    have n3 : ∀ o, (w.alloc o).cell? ⟨N, i.toNat * 7 + 3, none⟩ = some (.int .i64 (s.nd i.toNat).k2) := fun o => (H.out.alloc o).node (j := 3) (by omega) (by omega)
    have n4 : ∀ o, (w.alloc o).cell? ⟨N, i.toNat * 7 + 4, none⟩ = some (.int .i64 (s.nd i.toNat).k3) := fun o => (H.out.alloc o).node (j := 4) (by omega) (by omega)
    have n5 : ∀ o, (w.alloc o).cell? ⟨N, i.toNat * 7 + 5, none⟩ = some (.int .u64 (s.nd i.toNat).A) := fun o => (H.out.alloc o).node (j := 5) (by omega) (by omega)
    have n6 : ∀ o, (w.alloc o).cell? ⟨N, i.toNat * 7 + 6, none⟩ = some (.int .u64 (s.nd i.toNat).B) := fun o => (H.out.alloc o).node (j := 6) (by omega) (by omega)
    go_enter Try.func40, Try.ntmps40
    go_wp2_with (go_at_call 49; refine (Hs _).out.mono ?_; rintro e w' ⟨rfl, rfl⟩)
    exact bodyPost_ret (v := .tuple #[(s.nd i.toNat).val, .bool true]) (by simp [results, Try.results40, go_sem, Nd.val]) rfl ⟨rfl, (Below.refl _ _).alloc (Nat.le_refl _) _⟩
end Go.Proofs.Ytcdmebjggdhhdaa
