/- Package sweep: the kids of those that wait. -/
import Derived.Test.YtjndhjmbdhfclaaSw1
namespace Go.Proofs.Ytjndhjmbdhfclaa
set_option maxRecDepth 100000
open Go.RowKit

section
variable {K : Nat → Prop} {p : Nat} {s : Ar} {w : World}
set_option maxHeartbeats 8000000 in
theorem waiting_is (ha : Ars w K p s) (hf : s.Fit) :
    Calls Try.prog 79 #[.pointer (some ⟨p, 0, none⟩)] w fun e w' => ∃ v Ko, e = .returned v ∧ Lst w' w.heap.size Ko v (waitTo s s.n) ∧ (∀ b, Ko b → w.heap.size ≤ b ∧ b < w'.heap.size) ∧ Below w.heap.size w w' := by
  have Ha := Lib.hid ha
  have Hf := Lib.hid hf
  have hn := hf.n
  clear ha hf
  go_enter Try.func79, Try.ntmps79
  go_wp2_with fail
  go_loopw [3, 4] (fun v i W => ∃ (k : Nat) (Ko : Nat → Prop), i = .int .i64 ((k : Int) + 1) ∧ k ≤ s.n ∧ Lst W w.heap.size Ko v (waitTo s k) ∧ (∀ b, Ko b → w.heap.size ≤ b ∧ b < W.heap.size) ∧ Below w.heap.size w W) (fun _ i _ => s.n + 1 - (intOf i).toNat)
  case atStart => exact ⟨0, fun _ => False, rfl, by omega, Lst.nil _ _ _, fun b h => h.elim, Below.refl _ _⟩
  case round =>
    obtain ⟨k, Ko, rfl, k1, hl, hk, hb⟩ := hrel
    have Hl := Lib.hid hl
    have Hk := Lib.hid hk
    have Hb := Lib.hid hb
    have Hs := Lib.hid (size_is rfl (Ha.out.below hb) Hf.out)
    clear hl hk hb
    by_cases hlt : k < s.n
    · have hwl := waitTo_len s k
      have hws : waitTo s (k + 1) = waitTo s k ++ if s.u (k + 1) = true ∧ s.count ((k : Int) + 1) = 0 then (s.nd (k + 1)).kids else [] := rfl
      obtain ⟨x, g, hg, hgu, hgx⟩ : ∃ x g, s.get ((k : Int) + 1) = (x, g) ∧ s.u (k + 1) = g ∧ (g = true → s.nd (k + 1) = x) := by
        unfold Ar.get
        rw [show ((k : Int) + 1).toNat = k + 1 by omega]
        cases hu : s.u (k + 1)
        · rw [if_pos (by simp)]; exact ⟨_, _, rfl, rfl, fun h => (by cases h)⟩
        · rw [if_neg (by simp; omega)]; exact ⟨_, _, rfl, rfl, fun _ => rfl⟩
      rw [hgu] at hws
      have Hws := Lib.hid hws
      have Hgx := Lib.hid hgx
      have HG := Lib.hid (get_is ((k : Int) + 1) hg (Ha.out.below Hb.out) Hf.out)
      have HC := fun W (hw : Below w.heap.size w W) => Lib.hid (count_is ((k : Int) + 1) rfl (Ha.out.below hw) Hf.out)
      clear hws hgx hg hgu
      go_wp2_with (go_at_call 40; refine Hs.out.mono ?_; rintro e w' ⟨rfl, rfl⟩)
      refine HG.out.mono ?_
      clear HG Hs
      rintro e w5 ⟨rfl, _, hb5⟩
      have B5 := Lib.hid (Hb.out.trans (hb5.mono Hb.out.size))
      have B6 := Lib.hid (B5.out.alloc B5.out.size (.cells #[.int .i64 x.tag, .int .i64 x.k0, .int .i64 x.k1, .int .i64 x.k2, .int .i64 x.k3, .int .u64 x.A, .int .u64 x.B] 31))
      have L6 := Lib.hid ((Hl.out.of_below hb5).of_below ((Below.refl _ _).alloc (Nat.le_refl _) (.cells #[.int .i64 x.tag, .int .i64 x.k0, .int .i64 x.k1, .int .i64 x.k2, .int .i64 x.k3, .int .u64 x.A, .int .u64 x.B] 31)))
      have K6 := Lib.hid (show ∀ b, Ko b → w.heap.size ≤ b ∧ b < (w5.alloc (.cells #[.int .i64 x.tag, .int .i64 x.k0, .int .i64 x.k1, .int .i64 x.k2, .int .i64 x.k3, .int .u64 x.A, .int .u64 x.B] 31)).heap.size from fun b hb => ⟨(Hk.out b hb).1, by have := (Hk.out b hb).2; have := hb5.size; simp; omega⟩)
      have hx := heap_alloc_new w5 (.cells #[.int .i64 x.tag, .int .i64 x.k0, .int .i64 x.k1, .int .i64 x.k2, .int .i64 x.k3, .int .u64 x.A, .int .u64 x.B] 31)
      have Hx := Lib.hid hx
      have H := Lib.hid (HC _ B6.out)
      have hz : w5.heap.size < (w5.alloc (.cells #[.int .i64 x.tag, .int .i64 x.k0, .int .i64 x.k1, .int .i64 x.k2, .int .i64 x.k3, .int .u64 x.A, .int .u64 x.B] 31)).heap.size := by simp
      clear hb5 HC hx Hl Hk Hb B5
      go_upto_region 6 with fail
      generalize w5.alloc (.cells #[.int .i64 x.tag, .int .i64 x.k0, .int .i64 x.k1, .int .i64 x.k2, .int .i64 x.k3, .int .u64 x.A, .int .u64 x.B] 31) = w6 at *
      generalize w5.heap.size = z at *
      cases g
      · have Hws2 := Lib.hid (show waitTo s (k + 1) = waitTo s k by rw [Hws.out, if_neg (by simp), List.append_nil])
        clear H
        go_wp2_with fail
        go_roundw
        case rel => exact ⟨k + 1, Ko, by go_num, by omega, by rw [Hws2.out]; exact L6.out, K6.out, B6.out⟩
        case measure => simp [intOf]; omega
      · by_cases hc : s.count ((k : Int) + 1) = 0
        · have H' := H.out.out
          rw [hc] at H'
          have H2 := Lib.hid H'
          have Hws2 := Lib.hid (show waitTo s (k + 1) = waitTo s k ++ x.kids by rw [Hws.out, if_pos ⟨rfl, hc⟩, Hgx.out rfl])
          have Kx6 := Lib.hid (show ∀ b, Ko b → b < w6.heap.size from fun b hb => (K6.out b hb).2)
          have Bs6 := Lib.hid (show w.heap.size ≤ w6.heap.size from B6.out.size)
          have Ln6 := Lib.hid (show (waitTo s k).length + 4 ≤ 1000000000 by omega)
          have Nc := Lib.hid (show ∀ j, j < 4 → w6.cell? ((⟨z, 1, none⟩ : Addr).add j) = some (.int .i64 (x.kids.getD j 0)) from fun j hj => by
            rw [Addr.add_lit, cell_of_row _ _ _ _ _ _ Hx.out]
            have e : j = 0 ∨ j = 1 ∨ j = 2 ∨ j = 3 := by omega
            rcases e with rfl | rfl | rfl | rfl <;> rfl)
          clear H H' hc hwl
          go_wp2_with (first | (go_at_call 21; refine H2.out.mono ?_; rintro e w' ⟨rfl, rfl⟩) | (at_builtin; refine wpList_append_ints L6.out Kx6.out Bs6.out rfl (.tmp 26) (.tmp 28) (by rfl) (by rfl) ⟨z, 1, none⟩ 4 4 (by rfl) (by rfl) Ln6.out Nc.out ?_))
          intro v' w7 K2 hp
          have HP := Lib.hid hp
          clear hp
          go_wp2_with fail
          go_roundw
          case rel => exact ⟨k + 1, K2, by go_num, by omega, by rw [Hws2.out]; exact HP.out.lst, fun b hb => by obtain ⟨c, d⟩ := HP.out.new b hb; rcases d with d | d; exact ⟨(K6.out b d).1, c⟩; exact ⟨by have := B6.out.size; omega, c⟩, B6.out.trans HP.out.below⟩
          case measure => simp [intOf]; omega
        · have Hws2 := Lib.hid (show waitTo s (k + 1) = waitTo s k by rw [Hws.out, if_neg (fun h => hc h.2), List.append_nil])
          have H2 := Lib.hid H.out.out
          have hc' : (s.count ((k : Int) + 1) == 0) = false := by simpa using hc
          clear H hc hwl
          generalize s.count ((k : Int) + 1) = cc at *
          go_wp2_with (go_at_call 21; refine H2.out.mono ?_; rintro e w' ⟨rfl, rfl⟩)
          go_roundw
          case rel => exact ⟨k + 1, Ko, by go_num, by omega, by rw [Hws2.out]; exact L6.out, K6.out, B6.out⟩
          case measure => simp [intOf]; omega
    · obtain rfl : k = s.n := by omega
      go_wp2_with (go_at_call 40; refine Hs.out.mono ?_; rintro e w' ⟨rfl, rfl⟩)
      go_ret
      exact ⟨_, Ko, rfl, Hl.out, Hk.out, Hb.out⟩
end
end Go.Proofs.Ytjndhjmbdhfclaa
