/- Package wave where there is no arena. -/
import Derived.Test.YtdipgcbppggdhaaWv13
import Derived.Test.YtdipgcbppggdhaaBn
namespace Go.Proofs.Ytdipgcbppggdhaa
set_option maxRecDepth 100000
open Go.RowKit
set_option maxHeartbeats 4000000 in
theorem wrow_nil (i : Int) (w : World) :
    Calls Try.prog 29 #[.pointer none, .int .i64 i] w fun r w' => r = .returned (.tuple #[.agg #[.int .i64 0, .int .i64 0, .int .i64 0, .int .i64 0, .int .i64 0, .int .u64 0, .int .u64 0], .bool false]) ∧ Below w.heap.size w w' := by
  have H := fun (o : Obj) => Lib.hid (get_none i (w.alloc o))
  go_enter Try.func29, Try.ntmps29
  go_wp2_with fail
  refine (H _).out.mono ?_
  clear H
  rintro e w1 ⟨rfl, hk⟩
  go_wp2_with fail
  have hr : w1.heap[w.heap.size]? = some (.cells #[.int .i64 0, .int .i64 0, .int .i64 0, .int .i64 0, .int .i64 0, .int .u64 0, .int .u64 0] 47 (0, 0)) := by
    rw [hk.block _ (by simp)]; exact heap_alloc_new _ _
  have hq := lt_heap hr
  have Hk := Lib.hid (((Below.refl _ w).alloc (Nat.le_refl _) _).trans ((hk.mono (by simp)).alloc (by omega) (.cells #[.int .i64 0, .int .i64 0, .int .i64 0, .int .i64 0, .int .i64 0, .int .u64 0, .int .u64 0] 47)))
  replace hr := (Below.heap_alloc w1 (.cells #[.int .i64 0, .int .i64 0, .int .i64 0, .int .i64 0, .int .i64 0, .int .u64 0, .int .u64 0] 47) _ hq).trans hr
  have hx := heap_alloc_new w1 (.cells #[.int .i64 0, .int .i64 0, .int .i64 0, .int .i64 0, .int .i64 0, .int .u64 0, .int .u64 0] 47)
  clear hk
  generalize w1.alloc (.cells #[.int .i64 0, .int .i64 0, .int .i64 0, .int .i64 0, .int .i64 0, .int .u64 0, .int .u64 0] 47) = w2 at *
  generalize w1.heap.size = q at *
  have x0 : w2.cell? ⟨q, 0, none⟩ = some (.int .i64 0) := cell_of_row _ _ _ _ _ _ hx
  have x1 : w2.cell? ⟨q, 1, none⟩ = some (.int .i64 0) := cell_of_row _ _ _ _ _ _ hx
  have x2 : w2.cell? ⟨q, 2, none⟩ = some (.int .i64 0) := cell_of_row _ _ _ _ _ _ hx
  have x3 : w2.cell? ⟨q, 3, none⟩ = some (.int .i64 0) := cell_of_row _ _ _ _ _ _ hx
  have x4 : w2.cell? ⟨q, 4, none⟩ = some (.int .i64 0) := cell_of_row _ _ _ _ _ _ hx
  have x5 : w2.cell? ⟨q, 5, none⟩ = some (.int .u64 0) := cell_of_row _ _ _ _ _ _ hx
  have x6 : w2.cell? ⟨q, 6, none⟩ = some (.int .u64 0) := cell_of_row _ _ _ _ _ _ hx
  have r0 : w2.cell? ⟨w.heap.size, 0, none⟩ = some (.int .i64 0) := cell_of_row _ _ _ _ _ _ hr
  have r1 : w2.cell? ⟨w.heap.size, 1, none⟩ = some (.int .i64 0) := cell_of_row _ _ _ _ _ _ hr
  have r2 : w2.cell? ⟨w.heap.size, 2, none⟩ = some (.int .i64 0) := cell_of_row _ _ _ _ _ _ hr
  have r3 : w2.cell? ⟨w.heap.size, 3, none⟩ = some (.int .i64 0) := cell_of_row _ _ _ _ _ _ hr
  have r4 : w2.cell? ⟨w.heap.size, 4, none⟩ = some (.int .i64 0) := cell_of_row _ _ _ _ _ _ hr
  have r5 : w2.cell? ⟨w.heap.size, 5, none⟩ = some (.int .u64 0) := cell_of_row _ _ _ _ _ _ hr
  have r6 : w2.cell? ⟨w.heap.size, 6, none⟩ = some (.int .u64 0) := cell_of_row _ _ _ _ _ _ hr
  have rf : ∀ j, w2.frozen? ⟨w.heap.size, j, none⟩ = false := fun j => frozen_of_row _ _ _ _ _ hr
  clear hx hr
  generalize hz : w.heap.size = z at *
  go_region
  all_goals go_wp2_with fail
  all_goals exact bodyPost_ret (v := .tuple #[.agg #[.int .i64 0, .int .i64 0, .int .i64 0, .int .i64 0, .int .i64 0, .int .u64 0, .int .u64 0], .bool false]) (by simp [results, Try.results29, go_sem, r0, r1, r2, r3, r4, r5, r6]) rfl ⟨rfl, by rw [hz]; exact brow_below Hk.out ..⟩

set_option maxHeartbeats 2000000 in
theorem wlen_nil (h : Int) (w : World) : Calls Try.prog 20 #[.pointer none, .int .i64 h] w fun e w' => e = .returned (.int .i64 0) ∧ Below w.heap.size w w' := by
  have H := Lib.hid (wrow_nil h w)
  have HL := fun w => Lib.hid (blen_nil 0 w)
  go_enter Try.func20, Try.ntmps20
  go_wp2_with fail
  refine H.out.mono ?_
  rintro e w1 ⟨rfl, hk⟩
  have B1 := Lib.hid (hk.alloc hk.size (.cells #[.int .i64 0, .int .i64 0, .int .i64 0, .int .i64 0, .int .i64 0, .int .u64 0, .int .u64 0] 47))
  clear hk H
  go_wp2_with fail
  refine (HL _).out.mono ?_
  rintro e w2 ⟨rfl, hb⟩
  go_wp2_with fail
  go_ret
  exact ⟨rfl, B1.out.trans (hb.mono B1.out.size)⟩
set_option maxHeartbeats 2000000 in
theorem brank_nil (w : World) : Calls Try.prog 44 #[.pointer none, .int .i64 0, .int .i64 0] w fun e w' => e = .returned (.int .i64 0) ∧ Below w.heap.size w w' := by
  have HL := fun w => Lib.hid (blen_nil 0 w)
  have hmm : min (0 : Int) 0 = 0 := rfl
  go_enter Try.func44, Try.ntmps44
  go_wp2_with fail
  refine wp_scope_ghost 0 (fun _ _ _ => False) rfl (fun _ _ _ h => h.elim) fun _ => ?_
  go_wp2_with fail
  refine (HL _).out.mono ?_
  rintro e w2 ⟨rfl, hb⟩
  go_wp2_with fail
  simp only [Exit.jump]
  go_ret
  exact ⟨rfl, hb⟩
set_option maxHeartbeats 2000000 in
theorem alike_nil (one : Bool) (w : World) : Calls Try.prog 31 #[.pointer none, .int .i64 0, .int .i64 0, .bool one] w fun e w' => e = .returned (.int .i64 0) ∧ Below w.heap.size w w' := by
  have HL := fun w => Lib.hid (blen_nil 0 w)
  have HR := fun w => Lib.hid (brank_nil w)
  have hmm : min (0 : Int) 0 = 0 := rfl
  cases one
  · go_enter Try.func31, Try.ntmps31
    go_wp2_with fail
    refine (HL _).out.mono ?_
    rintro e w2 ⟨rfl, hb⟩
    have B := Lib.hid hb
    clear hb
    go_wp2_with fail
    refine (HR _).out.mono ?_
    rintro e w3 ⟨rfl, hb⟩
    go_wp2_with fail
    go_ret
    exact ⟨rfl, B.out.trans (hb.mono B.out.size)⟩
  · go_enter Try.func31, Try.ntmps31
    go_wp2_with fail
    refine (HL _).out.mono ?_
    rintro e w2 ⟨rfl, hb⟩
    have B := Lib.hid hb
    clear hb
    go_wp2_with fail
    refine (HR _).out.mono ?_
    rintro e w3 ⟨rfl, hb⟩
    go_wp2_with fail
    go_ret
    exact ⟨rfl, B.out.trans (hb.mono B.out.size)⟩
theorem keep_none (i : Int) (w : World) : Calls Try.prog 49 #[.pointer none, .int .i64 i] w fun e w' => e = .returned (.int .i64 9) ∧ w = w' := by
  go_enter Try.func49, Try.ntmps49
  go_wp2_with (go_at_call 37; refine (count_none _ _).mono ?_; rintro e w' ⟨rfl, rfl⟩)
  go_ret
  exact ⟨rfl, rfl⟩
set_option maxRecDepth 100000 in
set_option maxHeartbeats 4000000 in
theorem wmade_nil (w : World) :
    Calls Try.prog 51 #[.pointer none, .agg #[.int .i64 3, .int .i64 0, .int .i64 0, .int .i64 0, .int .i64 0, .int .u64 0, .int .u64 0], .int .i64 2] w fun o w' => o = .returned (.tuple #[.int .i64 0, .int .i64 2]) ∧ Below w.heap.size w w' := by
  have hix := fun j => ix4_0 (.int .i64 0) (.int .i64 0) (.int .i64 0) (.int .i64 j)
  go_enter Try.func51, Try.ntmps51
  go_wp2_with fail
  obtain ⟨w0, hw0⟩ : ∃ w0, w0 = w.alloc (.cells #[.int .i64 3, .int .i64 0, .int .i64 0, .int .i64 0, .int .i64 0, .int .u64 0, .int .u64 0] 47) := ⟨_, rfl⟩
  go_loopw [27] (fun i W => ∃ j : Nat, i = .int .i64 (j : Int) ∧ j ≤ 4 ∧ Below w.heap.size w W) (fun i _ => 4 - (intOf i).toNat)
  case atStart => exact ⟨0, rfl, by omega, (Below.refl _ _).alloc (Nat.le_refl _) _⟩
  case round =>
    obtain ⟨j, rfl, j4, hb⟩ := hrel
    have HB := Lib.hid hb
    clear hb hix hw0
    have hcase : j = 0 ∨ j = 1 ∨ j = 2 ∨ j = 3 ∨ j = 4 := by omega
    rcases hcase with rfl | rfl | rfl | rfl | rfl
    · have hix := ix4_0 (.int .i64 0) (.int .i64 0) (.int .i64 0) (.int .i64 0)
      go_wp2_with fail
      refine (drop_none _ _).mono ?_
      rintro e w' ⟨rfl, rfl⟩
      go_wp2_with fail
      go_roundw
      case rel => exact ⟨1, by first | rfl | go_num, by omega, HB.out⟩
      case measure => simp [intOf]
    · have hix := ix4_1 (.int .i64 0) (.int .i64 0) (.int .i64 0) (.int .i64 0)
      go_wp2_with fail
      refine (drop_none _ _).mono ?_
      rintro e w' ⟨rfl, rfl⟩
      go_wp2_with fail
      go_roundw
      case rel => exact ⟨2, by first | rfl | go_num, by omega, HB.out⟩
      case measure => simp [intOf]
    · have hix := ix4_2 (.int .i64 0) (.int .i64 0) (.int .i64 0) (.int .i64 0)
      go_wp2_with fail
      refine (drop_none _ _).mono ?_
      rintro e w' ⟨rfl, rfl⟩
      go_wp2_with fail
      go_roundw
      case rel => exact ⟨3, by first | rfl | go_num, by omega, HB.out⟩
      case measure => simp [intOf]
    · have hix := ix4_3 (.int .i64 0) (.int .i64 0) (.int .i64 0) (.int .i64 0)
      go_wp2_with fail
      refine (drop_none _ _).mono ?_
      rintro e w' ⟨rfl, rfl⟩
      go_wp2_with fail
      go_roundw
      case rel => exact ⟨4, by first | rfl | go_num, by omega, HB.out⟩
      case measure => simp [intOf]
    · go_wp2_with fail
      go_ret2
      exact ⟨rfl, HB.out⟩
section
variable {w : World}
set_option maxRecDepth 100000 in
set_option maxHeartbeats 8000000 in
theorem winsert_nil_err {lv : Int} (l0 : 0 ≤ lv) (l1 : lv ≤ 8) {one : Bool} (hbit : ∀ W, Calls Try.prog 30 #[.int .i64 5, .int .i64 lv] W fun e w' => e = .returned (.bool one) ∧ W = w')
    (HIn : ∀ w, Calls Try.prog 36 #[.pointer none, .int .i64 0, .int .i64 0, .int .i64 5, .int .i64 (lv + 1)] w fun o w' => o = .returned (.tuple #[.int .i64 0, .int .i64 2]) ∧ Below w.heap.size w w') :
    Calls Try.prog 36 #[.pointer none, .int .i64 0, .int .i64 0, .int .i64 5, .int .i64 lv] w fun o w' => o = .returned (.tuple #[.int .i64 0, .int .i64 2]) ∧ Below w.heap.size w w' := by
  have HBt := Lib.hid hbit
  have hwl : IntKind.i64.wrap (lv + 1) = lv + 1 := bwrap_small (by omega) (by omega)
  clear hbit
  have HBit := fun W => Lib.hid (show Calls Try.prog 30 #[.int .i64 5, .int .i64 lv] W fun e w' => e = .returned (.bool one) ∧ W = w' from HBt.out W)
  have HRow := fun w => Lib.hid (wrow_nil 0 w)
  have HAl := fun w => Lib.hid (alike_nil one w)
  have HKid := fun w => Lib.hid (show Calls Try.prog 32 #[.agg #[.int .i64 0, .int .i64 0, .int .i64 0, .int .i64 0, .int .i64 0, .int .u64 0, .int .u64 0], .bool one] w fun e w' => e = .returned (.int .i64 0) ∧ Below w.heap.size w w' from by have h := kid_is 0 0 0 0 0 0 0 one w; rw [ite_self] at h; exact h)
  replace HIn := fun w => Lib.hid (HIn w)
  go_enter Try.func36, Try.ntmps36
  go_wp2_with fail
  refine (HRow _).out.mono ?_
  rintro o w1 ⟨rfl, hk⟩
  have B2 := Lib.hid ((hk.alloc hk.size (.cells #[.int .i64 0, .int .i64 0, .int .i64 0, .int .i64 0, .int .i64 0, .int .u64 0, .int .u64 0] 47)).alloc (by have := hk.size; simp; omega) (.cells #[.int .i64 3, .int .i64 0, .int .i64 0, .int .i64 0, .int .i64 0, .int .u64 0, .int .u64 0] 47))
  have hx := (Below.heap_alloc (w1.alloc (.cells #[.int .i64 0, .int .i64 0, .int .i64 0, .int .i64 0, .int .i64 0, .int .u64 0, .int .u64 0] 47)) (.cells #[.int .i64 3, .int .i64 0, .int .i64 0, .int .i64 0, .int .i64 0, .int .u64 0, .int .u64 0] 47) _ (by simp)).trans (heap_alloc_new w1 (.cells #[.int .i64 0, .int .i64 0, .int .i64 0, .int .i64 0, .int .i64 0, .int .u64 0, .int .u64 0] 47))
  have hy := al2_1 w1 (.cells #[.int .i64 0, .int .i64 0, .int .i64 0, .int .i64 0, .int .i64 0, .int .u64 0, .int .u64 0] 47) (.cells #[.int .i64 3, .int .i64 0, .int .i64 0, .int .i64 0, .int .i64 0, .int .u64 0, .int .u64 0] 47)
  have hs1 := hk.size
  clear hk HRow
  go_wp2_with fail
  refine (HBit _).out.mono ?_
  rintro o w' ⟨rfl, rfl⟩
  go_upto_region 6 with fail
  have hz1 := lt_heap hx
  have hz2 := lt_heap hy
  have hzz : w1.heap.size ≠ w1.heap.size + 1 := by omega
  generalize (w1.alloc (.cells #[.int .i64 0, .int .i64 0, .int .i64 0, .int .i64 0, .int .i64 0, .int .u64 0, .int .u64 0] 47)).alloc (.cells #[.int .i64 3, .int .i64 0, .int .i64 0, .int .i64 0, .int .i64 0, .int .u64 0, .int .u64 0] 47) = w2 at *
  obtain ⟨z2, hz2e⟩ : ∃ z2, z2 = w1.heap.size + 1 := ⟨_, rfl⟩
  rw [← hz2e] at hy hz2 hzz ⊢
  have hs2 : w.heap.size ≤ z2 := by omega
  clear hz2e
  generalize w1.heap.size = z at *
  have HX := Lib.hid hx
  have HY := Lib.hid hy
  have Zs := Lib.hid (And.intro hs1 hs2)
  have s0 := box7 hx
  clear hx hy hs1 hs2 HBit
  go_cut [16, 17] (fun a b W => a = .int .i64 0 ∧ b = .int .i64 2 ∧ Below w2.heap.size w2 W)
  case first =>
    rename_i Qx hl0 Kx h2 J0 K0 h1 h0
    clear h2
    clear_value Qx
    have H0 := Lib.hid h0
    have H1 := Lib.hid h1
    clear h0 h1
    go_region_held3 (fun w' => w'.cell? ⟨z, 0, none⟩ = some (.int .i64 0) ∧ w'.cell? ⟨z, 1, none⟩ = some (.int .i64 0) ∧ w'.cell? ⟨z, 2, none⟩ = some (.int .i64 0) ∧ w'.cell? ⟨z, 3, none⟩ = some (.int .i64 0) ∧ w'.cell? ⟨z, 4, none⟩ = some (.int .i64 0) ∧ w'.cell? ⟨z, 5, none⟩ = some (.int .u64 0) ∧ w'.cell? ⟨z, 6, none⟩ = some (.int .u64 0)) (first | assumption | exact s0 | go_keep)
      ((first | (go_at_call 36; refine (HIn _).out.mono ?_; rintro o w5 ⟨rfl, hb5⟩; have s5 := box7_keep hb5 (by assumption); have B5 := B4.trans (hb5.mono B4.size)) | (go_at_call 31; refine (HAl _).out.mono ?_; rintro o w4 ⟨rfl, hb4⟩; have s4 := box7_keep hb4 (by assumption); have B4 := B3.trans (hb4.mono B3.size)) | (go_at_call 32; refine (HKid _).out.mono ?_; rintro o w3 ⟨rfl, hb3⟩; have s3 := box7_keep hb3 (by assumption); have B3 := (Below.refl w2.heap.size w2).drew.trans hb3)))
    all_goals
      have h0 := H0.out
      have h1 := H1.out
      go_wp2_with fail
      go_meet
      case rel => exact ⟨rfl, rfl, B5⟩
  case rest =>
    obtain ⟨rfl, rfl, hd⟩ := hcut
    clear s0 HIn HAl
    go_wp2_with fail
    go_ret2
    exact ⟨rfl, B2.out.trans (hd.mono B2.out.size)⟩
set_option maxRecDepth 100000 in
set_option maxHeartbeats 8000000 in
theorem winsert_nil_last (w : World) :
    Calls Try.prog 36 #[.pointer none, .int .i64 0, .int .i64 0, .int .i64 5, .int .i64 8] w fun o w' => o = .returned (.tuple #[.int .i64 0, .int .i64 2]) ∧ Below w.heap.size w w' := by
  have HIn : ∀ w, Calls Try.prog 36 #[.pointer none, .int .i64 0, .int .i64 0, .int .i64 5, .int .i64 9] w fun o w' => o = .returned (.tuple #[.int .i64 0, .int .i64 0]) ∧ Below w.heap.size w w' := fun w => by
    go_enter Try.func36, Try.ntmps36
    go_wp2_with fail
    go_ret2
    exact ⟨rfl, Below.refl _ _⟩
  have HMd := fun w => Lib.hid (wmade_nil w)
  have HBi := fun w => Lib.hid (bInsert_nil (one := true) w)
  have HKp := fun w => Lib.hid (keep_none 0 w)
  have HBit := fun W => Lib.hid (show Calls Try.prog 30 #[.int .i64 5, .int .i64 8] W fun e w' => e = .returned (.bool true) ∧ W = w' from bit_is 0 5 (by omega) (by omega) W)
  have HRow := fun w => Lib.hid (wrow_nil 0 w)
  have HAl := fun w => Lib.hid (alike_nil true w)
  have HKid := fun w => Lib.hid (show Calls Try.prog 32 #[.agg #[.int .i64 0, .int .i64 0, .int .i64 0, .int .i64 0, .int .i64 0, .int .u64 0, .int .u64 0], .bool true] w fun e w' => e = .returned (.int .i64 0) ∧ Below w.heap.size w w' from by have h := kid_is 0 0 0 0 0 0 0 true w; rw [ite_self] at h; exact h)
  replace HIn := fun w => Lib.hid (HIn w)
  go_enter Try.func36, Try.ntmps36
  go_wp2_with fail
  refine (HRow _).out.mono ?_
  rintro o w1 ⟨rfl, hk⟩
  have B2 := Lib.hid ((hk.alloc hk.size (.cells #[.int .i64 0, .int .i64 0, .int .i64 0, .int .i64 0, .int .i64 0, .int .u64 0, .int .u64 0] 47)).alloc (by have := hk.size; simp; omega) (.cells #[.int .i64 3, .int .i64 0, .int .i64 0, .int .i64 0, .int .i64 0, .int .u64 0, .int .u64 0] 47))
  have hx := (Below.heap_alloc (w1.alloc (.cells #[.int .i64 0, .int .i64 0, .int .i64 0, .int .i64 0, .int .i64 0, .int .u64 0, .int .u64 0] 47)) (.cells #[.int .i64 3, .int .i64 0, .int .i64 0, .int .i64 0, .int .i64 0, .int .u64 0, .int .u64 0] 47) _ (by simp)).trans (heap_alloc_new w1 (.cells #[.int .i64 0, .int .i64 0, .int .i64 0, .int .i64 0, .int .i64 0, .int .u64 0, .int .u64 0] 47))
  have hy := al2_1 w1 (.cells #[.int .i64 0, .int .i64 0, .int .i64 0, .int .i64 0, .int .i64 0, .int .u64 0, .int .u64 0] 47) (.cells #[.int .i64 3, .int .i64 0, .int .i64 0, .int .i64 0, .int .i64 0, .int .u64 0, .int .u64 0] 47)
  have hs1 := hk.size
  clear hk HRow
  go_wp2_with fail
  refine (HBit _).out.mono ?_
  rintro o w' ⟨rfl, rfl⟩
  go_upto_region 6 with fail
  have hz1 := lt_heap hx
  have hz2 := lt_heap hy
  have hzz : w1.heap.size ≠ w1.heap.size + 1 := by omega
  generalize (w1.alloc (.cells #[.int .i64 0, .int .i64 0, .int .i64 0, .int .i64 0, .int .i64 0, .int .u64 0, .int .u64 0] 47)).alloc (.cells #[.int .i64 3, .int .i64 0, .int .i64 0, .int .i64 0, .int .i64 0, .int .u64 0, .int .u64 0] 47) = w2 at *
  obtain ⟨z2, hz2e⟩ : ∃ z2, z2 = w1.heap.size + 1 := ⟨_, rfl⟩
  rw [← hz2e] at hy hz2 hzz ⊢
  have hs2 : w.heap.size ≤ z2 := by omega
  clear hz2e
  generalize w1.heap.size = z at *
  have HX := Lib.hid hx
  have HY := Lib.hid hy
  have Zs := Lib.hid (And.intro hs1 hs2)
  have s0 := box7 hx
  clear hx hy hs1 hs2 HBit
  go_cut [16, 17] (fun a b W => a = .int .i64 0 ∧ b = .int .i64 0 ∧ Below w2.heap.size w2 W)
  case first =>
    rename_i Qx  Kx h2 J0 K0 h1 h0
    clear h2
    clear_value Qx
    have H0 := Lib.hid h0
    have H1 := Lib.hid h1
    clear h0 h1
    go_region_held3 (fun w' => w'.cell? ⟨z, 0, none⟩ = some (.int .i64 0) ∧ w'.cell? ⟨z, 1, none⟩ = some (.int .i64 0) ∧ w'.cell? ⟨z, 2, none⟩ = some (.int .i64 0) ∧ w'.cell? ⟨z, 3, none⟩ = some (.int .i64 0) ∧ w'.cell? ⟨z, 4, none⟩ = some (.int .i64 0) ∧ w'.cell? ⟨z, 5, none⟩ = some (.int .u64 0) ∧ w'.cell? ⟨z, 6, none⟩ = some (.int .u64 0)) (first | assumption | exact s0 | go_keep)
      ((first | (go_at_call 36; refine (HIn _).out.mono ?_; rintro o w5 ⟨rfl, hb5⟩; have s5 := box7_keep hb5 (by assumption); have B5 := B4.trans (hb5.mono B4.size)) | (go_at_call 31; refine (HAl _).out.mono ?_; rintro o w4 ⟨rfl, hb4⟩; have s4 := box7_keep hb4 (by assumption); have B4 := B3.trans (hb4.mono B3.size)) | (go_at_call 32; refine (HKid _).out.mono ?_; rintro o w3 ⟨rfl, hb3⟩; have s3 := box7_keep hb3 (by assumption); have B3 := (Below.refl w2.heap.size w2).drew.trans hb3)))
    all_goals
      have h0 := H0.out
      have h1 := H1.out
      go_wp2_with fail
      go_meet
      case rel => exact ⟨rfl, rfl, B5⟩
  case rest =>
    obtain ⟨rfl, rfl, hd⟩ := hcut
    have X3 := Lib.hid ((hd.block z hz1).trans HX.out)
    have Y3 := Lib.hid ((hd.block z2 hz2).trans HY.out)
    have B3 := Lib.hid (B2.out.trans (hd.mono B2.out.size))
    have zf : ∀ j, wc.frozen? ⟨z2, j, none⟩ = false := fun j => frozen_of_row _ _ _ _ _ Y3.out
    obtain ⟨c0, c1, c2, c3, c4, c5, c6⟩ := box7 X3.out
    obtain ⟨d0, d1, d2, d3, d4, d5, d6⟩ := box7 Y3.out
    have hzs := hzz.symm
    have E0 := Lib.hid (show Box2 wc z z2 0 0 0 0 from ⟨c1, d0, d1, d2, d3, d4, d5, d6, zf⟩)
    clear s0 HIn HAl hd HX HY hz1 hz2
    go_upto_region 12 with fail
    have E4 := Lib.hid ((E0.out.set2 hzz 0).set3 hzz 0)
    have B4 := Lib.hid ((B3.out.setCell (p := ⟨z2, 2, none⟩) Zs.out.2 (.int .i64 0)).setCell (p := ⟨z2, 3, none⟩) Zs.out.2 (.int .i64 0))
    clear c0 c1 c2 c3 c4 c5 c6 d0 d1 d2 d3 d4 d5 d6 zf X3 Y3 E0 B3 B2
    generalize (wc.setCell ⟨z2, 2, none⟩ (.int .i64 0)).setCell ⟨z2, 3, none⟩ (.int .i64 0) = w4 at *
    obtain ⟨x1, y0, y1, y2, y3, y4, y5, y6, yf⟩ := E4.out
    go_wp2_with fail
    refine (kid_is _ _ _ _ _ _ _ _ _).mono ?_
    rintro o w5 ⟨rfl, hb⟩
    have E5 := Lib.hid (E4.out.below hb)
    have B5 := Lib.hid (B4.out.trans (hb.mono B4.out.size))
    clear x1 y0 y1 y2 y3 y4 y5 y6 yf E4 B4 hb
    obtain ⟨x1, y0, y1, y2, y3, y4, y5, y6, yf⟩ := E5.out
    go_wp2_with fail
    refine (HKp _).out.mono ?_
    rintro o w6 ⟨rfl, rfl⟩
    go_wp2_with fail
    refine (HBi _).out.mono ?_
    rintro o w7 ⟨rfl, hb⟩
    have E7 := Lib.hid (E5.out.below hb)
    have B7 := Lib.hid ((B5.out.trans (hb.mono B5.out.size)).setCell (p := ⟨z2, 1, none⟩) Zs.out.2 (.int .i64 0))
    clear x1 y0 y1 y2 y3 y4 y5 y6 yf E5 B5 hb HBi
    obtain ⟨x1, y0, y1, y2, y3, y4, y5, y6, yf⟩ := E7.out
    go_wp2_with fail
    refine (HMd _).out.mono ?_
    rintro o w8 ⟨rfl, hb⟩
    go_wp2_with fail
    go_ret2
    exact ⟨rfl, B7.out.trans (hb.mono B7.out.size)⟩
theorem winsert_nil : ∀ (n : Nat), n ≤ 8 → ∀ w, Calls Try.prog 36 #[.pointer none, .int .i64 0, .int .i64 0, .int .i64 5, .int .i64 (8 - n : Nat)] w fun o w' => o = .returned (.tuple #[.int .i64 0, .int .i64 2]) ∧ Below w.heap.size w w'
  | 0, _, w => winsert_nil_last w
  | n + 1, h, w => by
    have e : ((8 - (n + 1) : Nat) : Int) + 1 = ((8 - n : Nat) : Int) := by omega
    refine winsert_nil_err (one := wb (n + 1) 5) (by omega) (by omega) (fun W => bit_is (n + 1) 5 (by omega) (by omega) W) (fun w => ?_)
    rw [e]
    exact winsert_nil n (by omega) w
set_option maxHeartbeats 4000000 in
theorem wInsert_nil (w : World) : Calls Try.prog 17 #[.pointer none, .int .i64 0, .int .i64 0, .int .i64 5] w fun o w' => o = .returned (.tuple #[.int .i64 0, .int .i64 2]) ∧ Below w.heap.size w w' := by
  have HIs := Lib.hid (wis_is 5 (by omega) w)
  have HL := fun w => Lib.hid (wlen_nil 0 w)
  have HIn := fun w => Lib.hid (winsert_nil 8 (by omega) w)
  go_enter Try.func17, Try.ntmps17
  go_wp2_with fail
  refine HIs.out.mono ?_
  rintro o w' ⟨rfl, rfl⟩
  go_wp2_with fail
  refine (HL _).out.mono ?_
  rintro o w1 ⟨rfl, hb⟩
  have B1 := Lib.hid hb
  clear hb
  go_wp2_with fail
  refine (HIn _).out.mono ?_
  rintro o w2 ⟨rfl, hb⟩
  go_wp2_with fail
  go_ret2
  exact ⟨rfl, B1.out.trans (hb.mono B1.out.size)⟩
set_option maxHeartbeats 1000000 in
theorem wrank_no {v : Int} (hv : v < 0 ∨ 257 ≤ v) (a b c : Value) (w : World) : Calls Try.prog 13 #[a, b, .int .i64 v, c] w fun e w' => e = .returned (.int .i64 0) ∧ w = w' := by
  have HIs := Lib.hid (wis_no v hv w)
  go_enter Try.func13, Try.ntmps13
  go_wp2_with fail
  refine wp_scope_ghost 0 (fun _ _ _ => False) rfl (fun _ _ _ h => h.elim) fun _ => ?_
  go_wp2_with fail
  refine HIs.out.mono ?_
  rintro o w' ⟨rfl, rfl⟩
  go_wp2_with fail
  simp only [Exit.jump]
  go_ret
  exact ⟨rfl, rfl⟩
set_option maxHeartbeats 1000000 in
theorem wselect_no {v : Int} {n : Nat} {p h : Value} (hv : v < 0 ∨ 257 ≤ v) (k : Nat) (HL : Calls Try.prog 20 #[p, h] w fun e w' => e = .returned (.int .i64 n) ∧ Below w.heap.size w w') :
    Calls Try.prog 14 #[p, h, .int .i64 v, .int .i64 k] w fun e w' => e = .returned (.int .i64 (-1)) ∧ Below w.heap.size w w' := by
  have HR := fun w => Lib.hid (wrank_no hv p h (.int .i64 n) w)
  replace HL := Lib.hid HL
  clear hv
  go_enter Try.func14, Try.ntmps14
  go_wp2_with fail
  refine HL.out.mono ?_
  rintro o w1 ⟨rfl, hb1⟩
  go_wp2_with fail
  refine (HR _).out.mono ?_
  rintro o w2 ⟨rfl, rfl⟩
  go_wp2_with fail
  go_ret
  exact ⟨rfl, hb1⟩
end
end Go.Proofs.Ytdipgcbppggdhaa
