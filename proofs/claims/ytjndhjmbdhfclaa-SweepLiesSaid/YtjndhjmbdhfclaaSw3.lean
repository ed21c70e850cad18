/- Two lists of numbers behind one another: slices.Concat. -/
import Derived.Test.YtjndhjmbdhfclaaSw2
import Derived.Lib.AppendZerosOnto
namespace Go.Proofs.Ytjndhjmbdhfclaa
set_option maxRecDepth 100000
open Go.RowKit

section
variable {w : World}
set_option maxHeartbeats 2000000 in
theorem grow_nil (n : Nat) (hn : n ≤ 1000000000) :
    Calls Try.prog 103 #[.slice none 0 0, .int .i64 n] w fun e w' => ∃ v Ko, e = .returned v ∧ Lst w' w.heap.size Ko v [] ∧ (∀ b, Ko b → w.heap.size ≤ b ∧ b < w'.heap.size) ∧ Below w.heap.size w w' := by
  by_cases h0 : n = 0
  · subst h0
    go_enter Try.func103, Try.ntmps103
    go_wp2
    go_ret
    exact ⟨_, fun _ => False, rfl, Lst.nil _ _ _, fun b h => h.elim, Below.refl _ _⟩
  · obtain ⟨i0, hi, hz0, hz1, hz2⟩ := info_parts info_int
    obtain ⟨G, hG⟩ : ∃ G, grownCap w (0 + n) 0 3 = G := ⟨_, rfl⟩
    have hge : 0 + n ≤ G := by rw [← hG]; exact grownCap_ge _ _ _ _
    have hle : G ≤ maxLen := by rw [← hG]; exact grownCap_le_maxLen _ _ _ _ (by unfold maxLen; omega)
    have hold : (Builtin.firstCells i0.size 0 (.slice none 0 0)).run Try.prog w.drew = .ok ([] : List Value).toArray w.drew := run_firstCells_none w.drew i0.size 0 0 0
    have hr := fun ty => Lib.run_append_grow_zeros w 33 3 ty 3 i0 (.int .i64 0) .i64 .i64 Try.underlying33 Try.underlying3 hi hz0 none 0 0 [] hold n (by omega) (by rw [hz1]; decide) (by omega) (by omega) (by rw [hz2]; omega) (growslice_fits (by omega) (by rw [hz2]; omega))
    rw [hG, Nat.zero_add] at hr
    have hn0 : 0 < n := by omega
    obtain ⟨cs, hcs⟩ : ∃ cs, ([] : List Value).toArray ++ Builtin.zeroCells (Value.int .i64 0).cells n ++ Builtin.zeroCells (Value.int .i64 0).cells (G - n) = cs := ⟨_, rfl⟩
    have hsz : cs.size = G * 1 := by
      rw [← hcs]
      simp [size_zeroCells, Value.cells]
      omega
    rw [hcs] at hr
    have hle' : G ≤ 9223372036854775807 := hle
    have Hsz := Lib.hid hsz
    have Hle := Lib.hid hle
    clear hG hold hcs hi hz0 hz1 hz2 h0 hge hsz hle
    go_enter Try.func103, Try.ntmps103
    go_wp2_with (at_builtin; refine Lib.wpList_append_run _ rfl _ _ _ _ rfl _ _ rfl rfl _ _ (hr _) ?_)
    all_goals
      go_ret
      refine ⟨_, fun b => b = w.heap.size, rfl, ⟨⟨rfl, .inr ⟨w.heap.size, G, cs, rfl, Nat.le_refl _, heap_alloc_new _ _, Nat.zero_le _, Hle.out, Hsz.out, by simp⟩⟩, fun g hg => ?_⟩, fun b hb => ?_, (Below.refl _ _).drew.alloc (Nat.le_refl _) _⟩
      · injection hg with hg; exact hg.symm
      · subst hb; exact ⟨Nat.le_refl _, by simp⟩
set_option maxHeartbeats 4000000 in
theorem concat_two {z : Nat} {va vb : Value} {xs ys : List Int} (h0 : w.cell? ⟨z, 0, none⟩ = some va) (h1 : w.cell? ⟨z, 1, none⟩ = some vb) (hz : z < w.heap.size) (ha : Ints w va xs) (hb : Ints w vb ys) (hx : xs.length ≤ 1000000) (hy : ys.length ≤ 1000000) :
    Calls Try.prog 78 #[.slice (some ⟨z, 0, none⟩) 2 2] w fun e w' => ∃ v Ko, e = .returned v ∧ Lst w' w.heap.size Ko v (xs ++ ys) ∧ (∀ b, Ko b → w.heap.size ≤ b ∧ b < w'.heap.size) ∧ Below w.heap.size w w' := by
  have Ha := Lib.hid ha
  have Hb := Lib.hid hb
  obtain ⟨aa, ca, rfl⟩ := ha.slice
  obtain ⟨ab, cb, rfl⟩ := hb.slice
  clear ha hb
  go_enter Try.func78, Try.ntmps78
  go_wp2_with fail
  go_loopw [3, 11] (fun s i W => W = w ∧ ((i = .int .i64 0 ∧ s = .int .i64 0) ∨ (i = .int .i64 1 ∧ s = .int .i64 xs.length) ∨ (i = .int .i64 2 ∧ s = .int .i64 (xs.length + ys.length : Nat)))) (fun _ i _ => 2 - (intOf i).toNat)
  case atStart => exact ⟨rfl, .inl ⟨rfl, rfl⟩⟩
  case round =>
    obtain ⟨rfl, hrel⟩ := hrel
    rcases hrel with ⟨rfl, rfl⟩ | ⟨rfl, rfl⟩ | ⟨rfl, rfl⟩
    · go_wp2_with fail
      go_roundw
      case rel => exact ⟨trivial, .inr (.inl ⟨by go_num, by go_num⟩)⟩
      case measure => simp [intOf]
    · go_wp2_with fail
      go_roundw
      case rel => exact ⟨trivial, .inr (.inr ⟨by go_num, by go_num⟩)⟩
      case measure => simp [intOf]
    · have H := Lib.hid (grow_nil (w := wr) (xs.length + ys.length) (by omega))
      obtain ⟨wo, rfl⟩ : ∃ wo : World, wo = wr := ⟨_, rfl⟩
      have hnn : (0 : Int) ≤ ((xs.length + ys.length : Nat) : Int) := by omega
      generalize hm : xs.length + ys.length = m at *
      go_wp2_with fail
      refine H.out.mono ?_
      clear H
      rintro e w3 ⟨v, Ko, rfl, hl, hk, hb⟩
      have c0 : ∀ W, Below wo.heap.size wo W → W.cell? ⟨z, 0, none⟩ = some (.slice aa xs.length ca) := fun W hW => (hW.cell (p := ⟨z, 0, none⟩) hz).trans h0
      have c1 : ∀ W, Below wo.heap.size wo W → W.cell? ⟨z, 1, none⟩ = some (.slice ab ys.length cb) := fun W hW => (hW.cell (p := ⟨z, 1, none⟩) hz).trans h1
      have C0 := Lib.hid c0
      have C1 := Lib.hid c1
      have Hl := Lib.hid hl
      have Hk := Lib.hid hk
      have Hb3 := Lib.hid hb
      clear hl hk hb c0 c1 h0 h1 hm hnn
      go_wp2_with fail
      go_loopw [6, 27] (fun v i W => ∃ Ko : Nat → Prop, (∀ b, Ko b → wo.heap.size ≤ b ∧ b < W.heap.size) ∧ Below wo.heap.size wo W ∧ ((i = .int .i64 0 ∧ Lst W wo.heap.size Ko v []) ∨ (i = .int .i64 1 ∧ Lst W wo.heap.size Ko v xs) ∨ (i = .int .i64 2 ∧ Lst W wo.heap.size Ko v (xs ++ ys)))) (fun _ i _ => 2 - (intOf i).toNat)
      case atStart => exact ⟨Ko, Hk.out, Hb3.out, .inl ⟨rfl, Hl.out⟩⟩
      case round =>
        obtain ⟨Ko, hk, hb, hrel⟩ := hrel
        clear Hl Hk Hb3
        have Hk := Lib.hid hk
        have Hb4 := Lib.hid hb
        have d0 := C0.out wr hb
        have d1 := C1.out wr hb
        have Kx := Lib.hid (show ∀ b, Ko b → b < wr.heap.size from fun b hb => (hk b hb).2)
        have Bs := Lib.hid (show wo.heap.size ≤ wr.heap.size from hb.size)
        clear hk hb
        rcases hrel with ⟨rfl, hl⟩ | ⟨rfl, hl⟩ | ⟨rfl, hl⟩
        · have Hl := Lib.hid hl
          have Ia := Lib.hid (Ha.out.below Hb4.out)
          have Ln := Lib.hid (show ([] : List Int).length + xs.length ≤ 1000000000 by simp; omega)
          clear hl
          go_wp2_with (at_builtin; refine wpList_append_any Hl.out Kx.out Bs.out Ia.out Ln.out rfl (.tmp 31) (.tmp 32) (by rfl) (by rfl) (by rfl) ?_)
          intro v' w5 K2 hp
          have HP := Lib.hid hp
          clear hp
          go_wp2_with fail
          go_roundw
          case rel => exact ⟨K2, fun b hb => by obtain ⟨c, d⟩ := HP.out.new b hb; rcases d with d | d; exact ⟨(Hk.out b d).1, c⟩; exact ⟨by have := Hb4.out.size; omega, c⟩, Hb4.out.trans HP.out.below, .inr (.inl ⟨by go_num, HP.out.lst⟩)⟩
          case measure => simp [intOf]
        · have Hl := Lib.hid hl
          have Ib := Lib.hid (Hb.out.below Hb4.out)
          have Ln := Lib.hid (show xs.length + ys.length ≤ 1000000000 by omega)
          clear hl
          go_wp2_with (at_builtin; refine wpList_append_any Hl.out Kx.out Bs.out Ib.out Ln.out rfl (.tmp 31) (.tmp 32) (by rfl) (by rfl) (by rfl) ?_)
          intro v' w5 K2 hp
          have HP := Lib.hid hp
          clear hp
          go_wp2_with fail
          go_roundw
          case rel => exact ⟨K2, fun b hb => by obtain ⟨c, d⟩ := HP.out.new b hb; rcases d with d | d; exact ⟨(Hk.out b d).1, c⟩; exact ⟨by have := Hb4.out.size; omega, c⟩, Hb4.out.trans HP.out.below, .inr (.inr ⟨by go_num, HP.out.lst⟩)⟩
          case measure => simp [intOf]
        · have Hl := Lib.hid hl
          clear hl
          go_wp2_with fail
          go_ret
          exact ⟨_, Ko, rfl, Hl.out, Hk.out, Hb4.out⟩
end
end Go.Proofs.Ytjndhjmbdhfclaa
