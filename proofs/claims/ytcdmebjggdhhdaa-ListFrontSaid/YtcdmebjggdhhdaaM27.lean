/- How deep a list is; how wide a number is. -/
import Derived.Test.YtcdmebjggdhhdaaM23
import Derived.Test.YtcdmebjggdhhdaaRl
namespace Go.Proofs.Ytcdmebjggdhhdaa
open Go.RowKit
section
variable {K : Nat → Prop} {p : Nat} {s : Ar} {w : World}
set_option maxHeartbeats 2000000 in
theorem deep_zero (hf : s.Fit) (ha : Ars w K p s) : Calls Try.prog 13 #[.pointer (some ⟨p, 0, none⟩), .int .i64 0] w fun e w' => e = .returned (.int .i64 0) ∧ Below w.heap.size w w' := by
  have hz : s.get 0 = (Nd.zero, false) := by unfold Ar.get; rw [if_pos (.inl (by decide))]
  have H := Lib.hid (get_is 0 hz ha hf)
  clear ha hz hf
  go_enter Try.func13, Try.ntmps13
  go_wp2_with fail
  refine H.out.mono ?_
  rintro e w1 ⟨rfl, ha, hk⟩
  go_wp2_with fail
  go_ret
  exact ⟨rfl, hk.alloc hk.size _⟩
def dpt (d0 d1 : Nat) (j : Nat) : Nat := if j = 0 then 0 else if j = 1 then d0 else max d0 d1
set_option maxHeartbeats 4000000 in
theorem deep_node {h : Int} {x : Nd} {d0 d1 : Nat} (hg : s.get h = (x, true)) (h2 : x.k2 = 0) (h3 : x.k3 = 0) (hd0 : d0 ≤ 1000) (hd1 : d1 ≤ 1000)
    (H0 : ∀ W, Ars W K p s → Calls Try.prog 13 #[.pointer (some ⟨p, 0, none⟩), .int .i64 x.k0] W fun e w' => e = .returned (.int .i64 d0) ∧ Below W.heap.size W w')
    (H1 : ∀ W, Ars W K p s → Calls Try.prog 13 #[.pointer (some ⟨p, 0, none⟩), .int .i64 x.k1] W fun e w' => e = .returned (.int .i64 d1) ∧ Below W.heap.size W w')
    (hf : s.Fit) (ha : Ars w K p s) : Calls Try.prog 13 #[.pointer (some ⟨p, 0, none⟩), .int .i64 h] w fun e w' => e = .returned (.int .i64 (1 + max d0 d1 : Nat)) ∧ Below w.heap.size w w' := by
  have H := Lib.hid (get_is h hg ha hf)
  have HZ := fun W (ha : Ars W K p s) => Lib.hid (deep_zero hf ha)
  have G0 := fun W ha => Lib.hid (H0 W ha)
  have G1 := fun W ha => Lib.hid (H1 W ha)
  have b0 : (d0 : Int) ≤ 1000 := by omega
  have b1 : (d1 : Int) ≤ 1000 := by omega
  clear hg H0 H1 hf ha
  obtain ⟨tag, k0, k1, k2, k3, A, B⟩ := x
  dsimp only at h2 h3 H G0 G1
  subst h2 h3
  go_enter Try.func13, Try.ntmps13
  go_wp2_with fail
  refine H.out.mono ?_
  rintro e w1 ⟨rfl, ha, hk⟩
  have A1 := Lib.hid (ha.alloc (.cells #[.int .i64 tag, .int .i64 k0, .int .i64 k1, .int .i64 0, .int .i64 0, .int .u64 A, .int .u64 B] 64))
  have B1 := Lib.hid (hk.alloc hk.size (.cells #[.int .i64 tag, .int .i64 k0, .int .i64 k1, .int .i64 0, .int .i64 0, .int .u64 A, .int .u64 B] 64))
  clear ha hk H
  go_wp2_with fail
  go_loopw [7, 20] (fun d j W => ∃ k : Nat, j = .int .i64 (k : Int) ∧ k ≤ 4 ∧ (∃ D : Nat, d = .int .i64 (D : Int) ∧ Hid (D = dpt d0 d1 k)) ∧ Ars W K p s ∧ Below w.heap.size w W) (fun _ j _ => 4 - (intOf j).toNat)
  case atStart => exact ⟨0, rfl, by omega, ⟨0, rfl, rfl⟩, A1.out, B1.out⟩
  case round =>
    obtain ⟨k, rfl, k4, ⟨X, rfl, hD⟩, ha, hb⟩ := hrel
    have A2 := Lib.hid ha
    have B2 := Lib.hid hb
    clear ha hb A1 B1
    have hcase : k = 0 ∨ k = 1 ∨ k = 2 ∨ k = 3 ∨ k = 4 := by omega
    rcases hcase with rfl | rfl | rfl | rfl | rfl
    · have hix := ix4_0 (.int .i64 k0) (.int .i64 k1) (.int .i64 0) (.int .i64 0)
      have HC := G0 wr.drew A2.out.drew
      have HC' := G0 wr A2.out
      have hX : X = 0 := hD.out
      have eZ : dpt d0 d1 (0 + 1) = d0 := rfl
      obtain ⟨Y, hY⟩ : ∃ Y : Nat, Y = d0 := ⟨_, rfl⟩
      have HXYZ := Lib.hid (show dpt d0 d1 (0 + 1) = max X Y by rw [hX, hY]; exact eZ.trans (by omega))
      have hXs : (X : Int) ≤ 1000 := by omega
      have hYs : (Y : Int) ≤ 1000 := by omega
      have HC2 := Lib.hid (show Calls Try.prog 13 _ wr fun e w' => e = .returned (.int .i64 (Y : Int)) ∧ Below wr.heap.size wr w' from by rw [hY]; exact HC'.out)
      clear eZ hX hY HC HC' hD
      go_wp2_with fail
      refine HC2.out.mono ?_
      rintro e w2 ⟨rfl, hb⟩
      have A3 := Lib.hid (A2.out.below hb)
      have B3 := Lib.hid (B2.out.trans (hb.mono B2.out.size))
      clear hb HC2
      rcases Nat.lt_trichotomy X Y with c | c | c
      · have c2 : (X : Int) < (Y : Int) := by omega
        have hmx : max (X : Int) (Y : Int) = (Y : Int) := by omega
        have hz2 := Lib.hid (show Y = dpt d0 d1 (0 + 1) by rw [HXYZ.out]; omega)
        clear HXYZ
        go_wp2_with fail
        go_roundw
        case rel => exact ⟨0 + 1, by first | rfl | go_num, by omega, ⟨_, by first | rfl | rw [hmx], hz2⟩, A3.out, B3.out⟩
        case measure => simp [intOf]
      · subst c
        have hmx : max (X : Int) (X : Int) = (X : Int) := by omega
        have hz2 := Lib.hid (show X = dpt d0 d1 (0 + 1) by rw [HXYZ.out]; omega)
        clear HXYZ
        go_wp2_with fail
        go_roundw
        case rel => exact ⟨0 + 1, by first | rfl | go_num, by omega, ⟨_, by first | rfl | rw [hmx], hz2⟩, A3.out, B3.out⟩
        case measure => simp [intOf]
      · have c2 : (Y : Int) < (X : Int) := by omega
        have hmx : max (X : Int) (Y : Int) = (X : Int) := by omega
        have hz2 := Lib.hid (show X = dpt d0 d1 (0 + 1) by rw [HXYZ.out]; omega)
        clear HXYZ
        go_wp2_with fail
        go_roundw
        case rel => exact ⟨0 + 1, by first | rfl | go_num, by omega, ⟨_, by first | rfl | rw [hmx], hz2⟩, A3.out, B3.out⟩
        case measure => simp [intOf]
    · have hix := ix4_1 (.int .i64 k0) (.int .i64 k1) (.int .i64 0) (.int .i64 0)
      have HC := G1 wr.drew A2.out.drew
      have HC' := G1 wr A2.out
      have hX : X = d0 := hD.out
      have eZ : dpt d0 d1 (1 + 1) = max d0 d1 := rfl
      obtain ⟨Y, hY⟩ : ∃ Y : Nat, Y = d1 := ⟨_, rfl⟩
      have HXYZ := Lib.hid (show dpt d0 d1 (1 + 1) = max X Y by rw [hX, hY]; exact eZ.trans (by omega))
      have hXs : (X : Int) ≤ 1000 := by omega
      have hYs : (Y : Int) ≤ 1000 := by omega
      have HC2 := Lib.hid (show Calls Try.prog 13 _ wr fun e w' => e = .returned (.int .i64 (Y : Int)) ∧ Below wr.heap.size wr w' from by rw [hY]; exact HC'.out)
      clear eZ hX hY HC HC' hD
      go_wp2_with fail
      refine HC2.out.mono ?_
      rintro e w2 ⟨rfl, hb⟩
      have A3 := Lib.hid (A2.out.below hb)
      have B3 := Lib.hid (B2.out.trans (hb.mono B2.out.size))
      clear hb HC2
      rcases Nat.lt_trichotomy X Y with c | c | c
      · have c2 : (X : Int) < (Y : Int) := by omega
        have hmx : max (X : Int) (Y : Int) = (Y : Int) := by omega
        have hz2 := Lib.hid (show Y = dpt d0 d1 (1 + 1) by rw [HXYZ.out]; omega)
        clear HXYZ
        go_wp2_with fail
        go_roundw
        case rel => exact ⟨1 + 1, by first | rfl | go_num, by omega, ⟨_, by first | rfl | rw [hmx], hz2⟩, A3.out, B3.out⟩
        case measure => simp [intOf]
      · subst c
        have hmx : max (X : Int) (X : Int) = (X : Int) := by omega
        have hz2 := Lib.hid (show X = dpt d0 d1 (1 + 1) by rw [HXYZ.out]; omega)
        clear HXYZ
        go_wp2_with fail
        go_roundw
        case rel => exact ⟨1 + 1, by first | rfl | go_num, by omega, ⟨_, by first | rfl | rw [hmx], hz2⟩, A3.out, B3.out⟩
        case measure => simp [intOf]
      · have c2 : (Y : Int) < (X : Int) := by omega
        have hmx : max (X : Int) (Y : Int) = (X : Int) := by omega
        have hz2 := Lib.hid (show X = dpt d0 d1 (1 + 1) by rw [HXYZ.out]; omega)
        clear HXYZ
        go_wp2_with fail
        go_roundw
        case rel => exact ⟨1 + 1, by first | rfl | go_num, by omega, ⟨_, by first | rfl | rw [hmx], hz2⟩, A3.out, B3.out⟩
        case measure => simp [intOf]
    · have hix := ix4_2 (.int .i64 k0) (.int .i64 k1) (.int .i64 0) (.int .i64 0)
      have HC := HZ wr.drew A2.out.drew
      have HC' := HZ wr A2.out
      have hX : X = max d0 d1 := hD.out
      have eZ : dpt d0 d1 (2 + 1) = max d0 d1 := rfl
      obtain ⟨Y, hY⟩ : ∃ Y : Nat, Y = 0 := ⟨_, rfl⟩
      have HXYZ := Lib.hid (show dpt d0 d1 (2 + 1) = max X Y by rw [hX, hY]; exact eZ.trans (by omega))
      have hXs : (X : Int) ≤ 1000 := by omega
      have hYs : (Y : Int) ≤ 1000 := by omega
      have HC2 := Lib.hid (show Calls Try.prog 13 _ wr fun e w' => e = .returned (.int .i64 (Y : Int)) ∧ Below wr.heap.size wr w' from by rw [hY]; exact HC'.out)
      clear eZ hX hY HC HC' hD
      go_wp2_with fail
      refine HC2.out.mono ?_
      rintro e w2 ⟨rfl, hb⟩
      have A3 := Lib.hid (A2.out.below hb)
      have B3 := Lib.hid (B2.out.trans (hb.mono B2.out.size))
      clear hb HC2
      rcases Nat.lt_trichotomy X Y with c | c | c
      · have c2 : (X : Int) < (Y : Int) := by omega
        have hmx : max (X : Int) (Y : Int) = (Y : Int) := by omega
        have hz2 := Lib.hid (show Y = dpt d0 d1 (2 + 1) by rw [HXYZ.out]; omega)
        clear HXYZ
        go_wp2_with fail
        go_roundw
        case rel => exact ⟨2 + 1, by first | rfl | go_num, by omega, ⟨_, by first | rfl | rw [hmx], hz2⟩, A3.out, B3.out⟩
        case measure => simp [intOf]
      · subst c
        have hmx : max (X : Int) (X : Int) = (X : Int) := by omega
        have hz2 := Lib.hid (show X = dpt d0 d1 (2 + 1) by rw [HXYZ.out]; omega)
        clear HXYZ
        go_wp2_with fail
        go_roundw
        case rel => exact ⟨2 + 1, by first | rfl | go_num, by omega, ⟨_, by first | rfl | rw [hmx], hz2⟩, A3.out, B3.out⟩
        case measure => simp [intOf]
      · have c2 : (Y : Int) < (X : Int) := by omega
        have hmx : max (X : Int) (Y : Int) = (X : Int) := by omega
        have hz2 := Lib.hid (show X = dpt d0 d1 (2 + 1) by rw [HXYZ.out]; omega)
        clear HXYZ
        go_wp2_with fail
        go_roundw
        case rel => exact ⟨2 + 1, by first | rfl | go_num, by omega, ⟨_, by first | rfl | rw [hmx], hz2⟩, A3.out, B3.out⟩
        case measure => simp [intOf]
    · have hix := ix4_3 (.int .i64 k0) (.int .i64 k1) (.int .i64 0) (.int .i64 0)
      have HC := HZ wr.drew A2.out.drew
      have HC' := HZ wr A2.out
      have hX : X = max d0 d1 := hD.out
      have eZ : dpt d0 d1 (3 + 1) = max d0 d1 := rfl
      obtain ⟨Y, hY⟩ : ∃ Y : Nat, Y = 0 := ⟨_, rfl⟩
      have HXYZ := Lib.hid (show dpt d0 d1 (3 + 1) = max X Y by rw [hX, hY]; exact eZ.trans (by omega))
      have hXs : (X : Int) ≤ 1000 := by omega
      have hYs : (Y : Int) ≤ 1000 := by omega
      have HC2 := Lib.hid (show Calls Try.prog 13 _ wr fun e w' => e = .returned (.int .i64 (Y : Int)) ∧ Below wr.heap.size wr w' from by rw [hY]; exact HC'.out)
      clear eZ hX hY HC HC' hD
      go_wp2_with fail
      refine HC2.out.mono ?_
      rintro e w2 ⟨rfl, hb⟩
      have A3 := Lib.hid (A2.out.below hb)
      have B3 := Lib.hid (B2.out.trans (hb.mono B2.out.size))
      clear hb HC2
      rcases Nat.lt_trichotomy X Y with c | c | c
      · have c2 : (X : Int) < (Y : Int) := by omega
        have hmx : max (X : Int) (Y : Int) = (Y : Int) := by omega
        have hz2 := Lib.hid (show Y = dpt d0 d1 (3 + 1) by rw [HXYZ.out]; omega)
        clear HXYZ
        go_wp2_with fail
        go_roundw
        case rel => exact ⟨3 + 1, by first | rfl | go_num, by omega, ⟨_, by first | rfl | rw [hmx], hz2⟩, A3.out, B3.out⟩
        case measure => simp [intOf]
      · subst c
        have hmx : max (X : Int) (X : Int) = (X : Int) := by omega
        have hz2 := Lib.hid (show X = dpt d0 d1 (3 + 1) by rw [HXYZ.out]; omega)
        clear HXYZ
        go_wp2_with fail
        go_roundw
        case rel => exact ⟨3 + 1, by first | rfl | go_num, by omega, ⟨_, by first | rfl | rw [hmx], hz2⟩, A3.out, B3.out⟩
        case measure => simp [intOf]
      · have c2 : (Y : Int) < (X : Int) := by omega
        have hmx : max (X : Int) (Y : Int) = (X : Int) := by omega
        have hz2 := Lib.hid (show X = dpt d0 d1 (3 + 1) by rw [HXYZ.out]; omega)
        clear HXYZ
        go_wp2_with fail
        go_roundw
        case rel => exact ⟨3 + 1, by first | rfl | go_num, by omega, ⟨_, by first | rfl | rw [hmx], hz2⟩, A3.out, B3.out⟩
        case measure => simp [intOf]
    · have hX : X = max d0 d1 := hD.out
      have HX := Lib.hid hX
      have hM2 : (X : Int) ≤ 1000 := by omega
      clear hX
      go_wp2_with fail
      go_ret
      exact ⟨by rw [← HX.out]; first | rfl | (push_cast; rw [Int.add_comm]; rfl), B2.out⟩
theorem deep_rep (hf : s.Fit) : ∀ (t : Tr) (h : Int), Rep s h t → t.high ≤ 400 → ∀ W, Ars W K p s → Calls Try.prog 13 #[.pointer (some ⟨p, 0, none⟩), .int .i64 h] W fun e w' => e = .returned (.int .i64 t.high) ∧ Below W.heap.size W w'
  | .nil, h, r, _, W, ha => by
    obtain rfl : h = 0 := r
    exact deep_zero hf ha
  | .item a b, h, r, hh, W, ha => by
    obtain ⟨r1, r2, r3, r4⟩ := r
    have hg : s.get h = (⟨4, 0, 0, 0, 0, a, b⟩, true) := by
      unfold Ar.get
      rw [if_neg (by rw [r3]; simp; omega), r4]
    exact deep_node (d0 := 0) (d1 := 0) hg rfl rfl (by omega) (by omega) (fun W ha => deep_zero hf ha) (fun W ha => deep_zero hf ha) hf ha
  | .join a b, h, r, hh, W, ha => by
    obtain ⟨r1, r2, r3, k0, k1, r4, r5, r6⟩ := r
    have e : (Tr.join a b).high = 1 + max a.high b.high := rfl
    have hg : s.get h = (⟨5, k0, k1, 0, 0, ((a.len + b.len : Nat) : Int), 0⟩, true) := by
      unfold Ar.get
      rw [if_neg (by rw [r3]; simp; omega), r4]
    rw [e] at hh ⊢
    exact deep_node (d0 := a.high) (d1 := b.high) hg rfl rfl (by omega) (by omega) (fun W ha => deep_rep hf a k0 r5 (by omega) W ha) (fun W ha => deep_rep hf b k1 r6 (by omega) W ha) hf ha
theorem deep_list {h : Int} {l : List (Int × Int)} (hl : l.length ≤ 70000) (hf : s.Fit) (x : Lh s h l) (ha : Ars w K p s) :
    Calls Try.prog 13 #[.pointer (some ⟨p, 0, none⟩), .int .i64 h] w fun e w' => (∃ d : Nat, d ≤ 2 * bl l.length ∧ e = .returned (.int .i64 d)) ∧ Below w.heap.size w w' := by
  obtain ⟨t, r, f, rfl⟩ := x
  rw [Tr.len_list] at hl
  have h1 : t.high ≤ 40 ∧ t.high ≤ 2 * bl t.len := by
    rcases f with rfl | f
    · exact ⟨Nat.zero_le _, Nat.zero_le _⟩
    · exact ⟨f.high40 (by omega), f.deep⟩
  refine (deep_rep hf t h r (by omega) w ha).mono ?_
  rintro o w' ⟨rfl, hb⟩
  exact ⟨⟨t.high, by rw [Tr.len_list]; exact h1.2, rfl⟩, hb⟩
end
set_option maxHeartbeats 2000000 in
theorem wide_is (n : Nat) (hn : n ≤ 1000) (w : World) : Calls Try.prog 14 #[.int .i64 n] w fun e w' => e = .returned (.int .i64 (bl n : Nat)) ∧ w = w' := by
  have hn' : (n : Int) ≤ 1000 := by omega
  have hb := Lib.hid (bl_is n)
  have hs := bl_small hn
  go_enter Try.func14, Try.ntmps14
  go_wp2_with fail
  go_loopw [3] (fun h W => ∃ k : Nat, h = .int .i64 k ∧ k ≤ bl n ∧ W = w) (fun h _ => bl n - (intOf h).toNat)
  case atStart => exact ⟨0, rfl, Nat.zero_le _, rfl⟩
  case round =>
    obtain ⟨k, rfl, hk, rfl⟩ := hrel
    obtain ⟨P, hP, e1, e2⟩ := pow_val (k := k) (by omega)
    by_cases hlt : k < bl n
    · have h2 := hb.out.2 k hlt
      have h3 : (P : Int) ≤ (n : Int) := by omega
      have hkI : (k : Int) ≤ 10 := by omega
      clear hP
      go_wp2_with fail
      go_roundw
      case rel => exact ⟨k + 1, by go_num, by omega, by first | rfl | trivial⟩
      case measure => simp [intOf]; omega
    · obtain rfl : k = bl n := by omega
      have h2 := hb.out.1
      have h3 : (n : Int) < (P : Int) := by omega
      have hkI : ((bl n : Nat) : Int) ≤ 10 := by omega
      clear hP h2 hb hk hlt
      go_wp2_with fail
      go_ret
      exact ⟨by first | rfl | (push_cast; rfl), rfl⟩
end Go.Proofs.Ytcdmebjggdhhdaa
