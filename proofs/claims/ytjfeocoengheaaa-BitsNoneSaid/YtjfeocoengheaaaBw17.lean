/- All bits of a row; whether two lists of bits are alike. -/
import Derived.Test.YtjfeocoengheaaaBw16
namespace Go.Proofs.Ytjfeocoengheaaa
set_option maxRecDepth 100000
open Go.RowKit
section
variable {w w' : World} {K : Nat → Prop} {p : Nat} {s s' : Ar} {L L' : List Int} {h : Int} {xs : List Bool}
set_option maxRecDepth 100000 in
set_option maxHeartbeats 4000000 in
theorem ball_is (g : Gd s L) (sn : Snd s) (r : Row s L h xs) (hx : xs.length ≤ 100000) (ha : Ars w K p s) :
    Calls Try.prog 20 #[.pointer (some ⟨p, 0, none⟩), .int .i64 h] w fun e w' => ∃ v K', e = .returned v ∧ Bls w' w.heap.size K' v xs ∧ (∀ b, K' b → b < w'.heap.size) ∧ Below w.heap.size w w' := by
  obtain ⟨n, hn⟩ : ∃ n, n = xs.length := ⟨_, rfl⟩
  have HN := Lib.hid hn
  have HX := Lib.hid (show n ≤ 100000 by omega)
  have HLen : ∀ W, Ars W K p s → Hid (Calls Try.prog 13 #[.pointer (some ⟨p, 0, none⟩), .int .i64 h] W fun r w' => r = .returned (.int .i64 n) ∧ Below W.heap.size W w') := fun W ha => by rw [hn]; exact Lib.hid (blen_row g sn r ha)
  have HLen := Lib.hid HLen
  have HGet := Lib.hid (fun (W : World) (ha : Ars W K p s) (i : Nat) (hi : i < n) => bget_row (i := i) g sn r ha (by omega))
  have Ha := Lib.hid ha
  clear ha r g sn hx hn
  go_enter Try.func20, Try.ntmps20
  go_wp2_with fail
  refine (HLen.out _ Ha.out).out.mono ?_
  rintro e w1 ⟨rfl, hb⟩
  have Hb := Lib.hid hb
  clear hb HLen
  go_wp2_with fail
  go_loopw [5, 12] (fun v k W => ∃ (j : Nat) (Kl : Nat → Prop), k = .int .i64 (j : Int) ∧ j ≤ n ∧ Bls W w.heap.size Kl v (xs.take j) ∧ (∀ b, Kl b → b < W.heap.size) ∧ Below w.heap.size w W) (fun _ k _ => n - (intOf k).toNat)
  case atStart => exact ⟨0, fun _ => False, rfl, by omega, Bls.nil _ _ _, fun b hb => hb.elim, Hb.out⟩
  case round =>
    obtain ⟨j, Kl, rfl, j1, hl, hlt, hbl⟩ := hrel
    have Hl := Lib.hid hl
    have Hlt := Lib.hid hlt
    have Hbl := Lib.hid hbl
    clear hl hlt hbl Hb
    by_cases hj : j < n
    · obtain ⟨av, cv, hsv⟩ := Hl.out.slice
      have hlen : (xs.take j).length = j := by rw [List.length_take, ← HN.out]; omega
      rw [hlen] at hsv
      subst hsv
      have hjI : (j : Int) < (n : Int) := by omega
      have hjJ : (j : Int) + 1 ≤ 100000 := by have := HX.out; omega
      go_wp2_with fail
      refine (HGet.out _ (Ha.out.below Hbl.out) j hj).mono ?_
      rintro e w5 ⟨rfl, hb5⟩
      have Hb5 := Lib.hid hb5
      clear hb5
      obtain ⟨y, hy⟩ : ∃ y, xs.getD j false = y := ⟨_, rfl⟩
      have HY := Lib.hid hy
      rw [hy]
      clear hy
      have Q1 := Lib.hid ((Hl.out.kept (Kept.of_below Hb5.out Kl)).kept ((Kept.refl Kl w5).alloc (.cells #[.bool y] 4)))
      have Q2 := Lib.hid (show ∀ b, Kl b → b < (w5.alloc (.cells #[.bool y] 4)).heap.size from fun b hb => by have := Hlt.out b hb; have := Hb5.out.size; simp; omega)
      have Q3 := Lib.hid (show w.heap.size ≤ (w5.alloc (.cells #[.bool y] 4)).heap.size from by have := Hbl.out.size; have := Hb5.out.size; simp; omega)
      have Ln := Lib.hid (show (xs.take j).length + 1 ≤ 1000000000 by rw [hlen]; have := HX.out; omega)
      go_wp2_with (at_builtin; refine wpList_append_bls Q1.out Q2.out Q3.out Ln.out rfl (.tmp 22) (.tmp 24) rfl rfl ⟨w5.heap.size, 0, none⟩ y 1 rfl (cell_new rfl rfl) ?_)
      intro v' w7 K2 hp
      have HP := Lib.hid hp
      clear hp
      go_wp2_with fail
      go_roundw
      case rel =>
        have e1 : xs.take j ++ [y] = xs.take (j + 1) := by
          have : j < xs.length := by have := HN.out; omega
          rw [List.take_add_one, ← HY.out]
          simp [List.getD, this]
        have hb := HP.out.lst
        rw [e1] at hb
        refine ⟨j + 1, K2, by go_num, by omega, hb, fun b hb => (HP.out.new b hb).1, ?_⟩
        have h5 : Below w.heap.size w w5 := Hbl.out.trans (Hb5.out.mono Hbl.out.size)
        exact (h5.alloc h5.size _).trans HP.out.below
      case measure => simp [intOf]; omega
    · obtain rfl : n = j := by omega
      have hl := Hl.out
      rw [List.take_of_length_le (by rw [HN.out]; exact Nat.le_refl _)] at hl
      have Hl2 := Lib.hid hl
      clear hl
      go_wp2_with fail
      go_ret
      exact ⟨_, Kl, rfl, Hl2.out, Hlt.out, Hbl.out⟩
set_option maxRecDepth 100000 in
set_option maxHeartbeats 4000000 in
theorem same_bools_is {va vb : Value} {xs : List Bool} (ha : Bools w va xs) (hb : Bools w vb xs) (hl : xs.length ≤ 1000000) :
    Calls Try.prog 19 #[va, vb] w fun e w' => e = .returned (.bool true) ∧ Below w.heap.size w w' := by
  obtain ⟨L, hL⟩ : ∃ L, Hid (xs.length = L) := ⟨_, rfl⟩
  have hl' : L ≤ 1000000 := hL.out ▸ hl
  have Ha := Lib.hid ha
  have Hb := Lib.hid hb
  obtain ⟨aa, ca, rfl⟩ := ha.slice
  obtain ⟨ab, cb, rfl⟩ := hb.slice
  rw [hL.out] at Ha Hb ⊢
  clear ha hb hl
  go_enter Try.func19, Try.ntmps19
  go_wp2_with fail
  go_loopw [5] (fun i W => ∃ t q : Nat, i = .int .i64 t ∧ t ≤ L ∧ W = w.drewN q) (fun i _ => L - (intOf i).toNat)
  case atStart => exact ⟨0, 0, rfl, by omega, rfl⟩
  case round =>
    obtain ⟨t, q, rfl, t1, rfl⟩ := hrel
    by_cases ht : t < L
    · rcases Ha.out with ⟨_, e2⟩ | ⟨b1, o1, c1, e1, h1, h2, h3⟩
      · have := hL.out; rw [e2] at this; simp at this; omega
      · rcases Hb.out with ⟨_, e2⟩ | ⟨b2, o2, c2, f1, g1, g2, g3⟩
        · have := hL.out; rw [e2] at this; simp at this; omega
        · injection e1 with e1 _ e3
          injection f1 with f1 _ f3
          subst e1 e3 f1 f3
          have hca := h3 t (by rw [hL.out]; exact ht)
          have hcb := g3 t (by rw [hL.out]; exact ht)
          rw [hL.out] at h2 g2
          have i0 : (0 : Int) ≤ (t : Int) := by omega
          have i1 : (t : Int) < (L : Int) := by omega
          have cA : ∀ q', (w.drewN q').cell? ⟨b1, o1 + t, none⟩ = some (.bool (xs.getD t false)) := fun _ => hca
          have cB : ∀ q', (w.drewN q').cell? ⟨b2, o2 + t, none⟩ = some (.bool (xs.getD t false)) := fun _ => hcb
          clear h3 g3 h1 g1
          generalize xs.getD t false = y at *
          go_wp2_with fail
          go_quiet (fail)
          clear cA cB
          go_wp2_with fail
          go_roundw
          case rel => exact ⟨t + 1, _, by go_num, by omega, rfl⟩
          case measure => simp [intOf]; omega
    · obtain rfl : t = L := by omega
      go_wp2_with fail
      go_ret
      exact ⟨rfl, ⟨rfl, rfl, rfl, Nat.le_refl _, fun _ _ => rfl⟩⟩
end
end Go.Proofs.Ytjfeocoengheaaa
