/- Package sweep: what the closures of Audit and Leaks tell. -/
import Derived.Test.YtjndhjmbdhfclaaSw3
import Derived.Test.YtjndhjmbdhfclaaShelf2
import Derived.Test.YtjndhjmbdhfclaaMap
namespace Go.Proofs.Ytjndhjmbdhfclaa
set_option maxRecDepth 100000
open Go.RowKit

/-- A handle, or 0. -/
def cl (x : Int) : Int := if 0 ≤ x ∧ x ≤ 1000000 then x else 0
theorem cl_range (x : Int) : 0 ≤ cl x ∧ cl x ≤ 1000000 := by unfold cl; split <;> omega
theorem cl_same {x : Int} (h : 0 ≤ x ∧ x ≤ 1000000) : cl x = x := if_pos h
section
variable {K : Nat → Prop} {p : Nat} {s : Ar} {w W : World}
set_option maxHeartbeats 1000000 in
theorem told_count {ab xb mb n : Nat} {f : Int → Int} {h : Int} (ha : Ars W K p s) (hf : s.Fit) (ca : W.cell? ⟨ab, 0, none⟩ = some (.pointer (some ⟨p, 0, none⟩))) (cx : W.cell? ⟨xb, 0, none⟩ = some (.map (some mb))) (hm : IMap W mb n f) (hh : 0 ≤ h ∧ h ≤ 1000000) :
    Calls Try.prog 84 #[.int .i64 h, .pointer (some ⟨ab, 0, none⟩), .pointer (some ⟨xb, 0, none⟩)] W fun e w' => e = .returned (.bool (s.count h != f h)) ∧ ∃ q, w' = W.drewN q := by
  have H := fun n : Nat => Lib.hid (count_is h rfl (ha.drewN n) hf)
  have hlk : ∀ q', (Instr.lookup 66 (.map (some mb)) (.int .i64 h) false).run Try.prog (W.drewN q') = .ok (.int .i64 (f h)) (W.drewN q') := fun q' => (hm.drewN q').look (WalkArith.wf_i64 (by omega))
  clear ha hf hm hh
  generalize s.count h = c at *
  generalize f h = d at *
  go_enter Try.func84, Try.ntmps84
  go_wp2_with fail
  go_quiet ((go_at_call 21; exact quiet_is (H _).out))
  go_wp2_with fail
  go_ret
  exact ⟨rfl, _, rfl⟩
set_option maxHeartbeats 1000000 in
theorem contains_nil (h : Int) : Calls Try.prog 82 #[.slice none 0 0, .int .i64 h] W fun e w' => e = .returned (.bool false) ∧ w' = W := by
  have H : Calls Try.prog 105 #[.slice none 0 0, .int .i64 h] W fun e w' => e = .returned (.int .i64 (-1)) ∧ w' = W := by
    go_enter Try.func105, Try.ntmps105
    go_wp2_with fail
    go_loopw [8] (fun i W' => i = .int .i64 0 ∧ W' = W) (fun _ _ => 0)
    case atStart => exact ⟨rfl, rfl⟩
    case round =>
      obtain ⟨rfl, rfl⟩ := hrel
      go_wp2_with fail
      go_ret
      exact ⟨rfl, rfl⟩
  have H2 := Lib.hid H
  clear H
  go_enter Try.func82, Try.ntmps82
  go_wp2_with (go_at_call 105; refine H2.out.mono ?_; rintro e w' ⟨rfl, rfl⟩)
  go_ret
  exact ⟨rfl, rfl⟩
theorem contains_is {v : Value} {ys : List Int} {h : Int} (hI : Ints W v ys) (hl : ys.length ≤ 1000000000) : Calls Try.prog 82 #[v, .int .i64 h] W fun e w' => e = .returned (.bool (ys.contains h)) ∧ w' = W := by
  rcases hI with ⟨rfl, rfl⟩ | ⟨b, off, c, rfl, h1, h2, h3⟩
  · exact contains_nil h
  · refine (Try.slices_Contains_int b off ys.length c ys h W (Nat.le_refl _) (by omega) h3).mono ?_
    rintro e w' ⟨rfl, rfl⟩
    rw [List.take_length]
    exact ⟨rfl, rfl⟩
set_option maxHeartbeats 1000000 in
theorem told_in {rb : Nat} {v : Value} {ys : List Int} {h : Int} (cr : W.cell? ⟨rb, 0, none⟩ = some v) (hI : Ints W v ys) (hl : ys.length ≤ 1000000000) :
    Calls Try.prog 81 #[.int .i64 h, .pointer (some ⟨rb, 0, none⟩)] W fun e w' => e = .returned (.bool (ys.contains h)) ∧ ∃ q, w' = W.drewN q := by
  have H := contains_is (h := h) hI hl
  obtain ⟨a, c, rfl⟩ := hI.slice
  clear hI hl
  generalize ys.contains h = cb at *
  have H := Lib.hid H
  go_enter Try.func81, Try.ntmps81
  go_wp2_with (go_at_call 82; refine H.out.mono ?_; rintro e w' ⟨rfl, rfl⟩)
  go_ret
  exact ⟨rfl, 0, rfl⟩
end
end Go.Proofs.Ytjndhjmbdhfclaa
