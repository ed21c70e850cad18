/- What the arena's methods answer where there is no arena. -/
import Derived.Test.YtdipgcbppggdhaaGpA
namespace Go.Proofs.Ytdipgcbppggdhaa
set_option maxRecDepth 100000
open Go.RowKit
set_option maxHeartbeats 400000 in
theorem size_none (w : World) : Calls Try.prog 52 #[.pointer none] w fun e w' => e = .returned (.int .i64 0) ∧ w = w' := by
  go_enter Try.func52, Try.ntmps52
  go_wp2
  go_ret
  exact ⟨rfl, rfl⟩
set_option maxHeartbeats 400000 in
theorem count_none (i : Int) (w : World) : Calls Try.prog 37 #[.pointer none, .int .i64 i] w fun e w' => e = .returned (.int .i64 0) ∧ w = w' := by
  by_cases i1 : i < 1
  · go_enter Try.func37, Try.ntmps37
    go_wp2_with (go_at_call 52; refine (size_none _).mono ?_; rintro e w' ⟨rfl, rfl⟩)
    go_ret
    exact ⟨rfl, rfl⟩
  · have i2 : 0 < i := by omega
    go_enter Try.func37, Try.ntmps37
    go_wp2_with (go_at_call 52; refine (size_none _).mono ?_; rintro e w' ⟨rfl, rfl⟩)
    go_ret
    exact ⟨rfl, rfl⟩
set_option maxHeartbeats 400000 in
theorem free_none' (w : World) : Calls Try.prog 40 #[.pointer none] w fun e w' => e = .returned (.int .i64 0) ∧ w = w' := by
  go_enter Try.func40, Try.ntmps40
  go_wp2_with fail
  go_loop [3] (fun i => i = .int .i64 1) (fun i => 0)
  case atStart => rfl
  case round =>
    subst hrel
    go_wp2_with (go_at_call 52; refine (size_none _).mono ?_; rintro e w' ⟨rfl, rfl⟩)
    go_ret
    exact ⟨rfl, rfl⟩
set_option maxHeartbeats 1000000 in
theorem get_none (i : Int) (w : World) : Calls Try.prog 43 #[.pointer none, .int .i64 i] w fun e w' => e = .returned (.tuple #[.agg #[.int .i64 0, .int .i64 0, .int .i64 0, .int .i64 0, .int .i64 0, .int .u64 0, .int .u64 0], .bool false]) ∧ Below w.heap.size w w' := by
  by_cases i1 : i < 1
  · go_enter Try.func43, Try.ntmps43
    go_wp2_with (go_at_call 52; refine (size_none _).mono ?_; rintro e w' ⟨rfl, rfl⟩)
    exact bodyPost_ret (v := .tuple #[Nd.zero.val, .bool false]) (by simp [results, Try.results43, go_sem, Nd.val, Nd.zero]) rfl ⟨rfl, (Below.refl _ _).alloc (Nat.le_refl _) _⟩
  · have i2 : 0 < i := by omega
    go_enter Try.func43, Try.ntmps43
    go_wp2_with (go_at_call 52; refine (size_none _).mono ?_; rintro e w' ⟨rfl, rfl⟩)
    exact bodyPost_ret (v := .tuple #[Nd.zero.val, .bool false]) (by simp [results, Try.results43, go_sem, Nd.val, Nd.zero]) rfl ⟨rfl, (Below.refl _ _).alloc (Nat.le_refl _) _⟩
set_option maxHeartbeats 400000 in
theorem drop_none (i : Int) (w : World) : Calls Try.prog 18 #[.pointer none, .int .i64 i] w fun e w' => e = .returned (.int .i64 9) ∧ w = w' := by
  go_enter Try.func18, Try.ntmps18
  go_wp2_with (go_at_call 37; refine (count_none _ _).mono ?_; rintro e w' ⟨rfl, rfl⟩)
  go_ret
  exact ⟨rfl, rfl⟩
set_option maxHeartbeats 1000000 in
theorem make_no_arena {t a b : Int} (h0 : 1 ≤ t) (h1 : t ≤ 6) (w : World) :
    Calls Try.prog 24 #[.pointer none, .agg #[.int .i64 t, .int .i64 0, .int .i64 0, .int .i64 0, .int .i64 0, .int .u64 a, .int .u64 b]] w fun e w' => e = .returned (.tuple #[.int .i64 0, .int .i64 2]) ∧ Below w.heap.size w w' := by
  go_enter Try.func24, Try.ntmps24
  go_wp2_with fail
  go_loop [21] (fun i => ∃ k : Nat, i = .int .i64 k ∧ k ≤ 4) (fun i => 4 - (intOf i).toNat)
  case atStart => exact ⟨0, rfl, by omega⟩
  case round =>
    obtain ⟨k, rfl, k4⟩ := hrel
    by_cases hlt : k < 4
    · have hix : ∀ w, (Instr.index 44 (.agg #[.int .i64 0, .int .i64 0, .int .i64 0, .int .i64 0]) (.int .i64 k)).run Try.prog w = .ok (.int .i64 0) w := by
        match k, hlt with
        | 0, _ => exact ix4_0 _ _ _ _
        | 1, _ => exact ix4_1 _ _ _ _
        | 2, _ => exact ix4_2 _ _ _ _
        | 3, _ => exact ix4_3 _ _ _ _
      go_wp2_with fail
      go_round
      case rel => exact ⟨k + 1, by go_num, by omega⟩
      case measure => simp [intOf]; omega
    · obtain rfl : k = 4 := by omega
      go_wp2_with (go_at_call 40; refine (free_none' _).mono ?_; rintro e w' ⟨rfl, rfl⟩)
      go_ret2
      exact ⟨rfl, (Below.refl _ _).alloc (Nat.le_refl _) _⟩
end Go.Proofs.Ytdipgcbppggdhaa
