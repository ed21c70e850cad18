/- Package bits: the bits of a leaf; how many bits there are; how many are 1; how many are alike. -/
import Derived.Test.YtjfeocoengheaaaBw1
namespace Go.Proofs.Ytjfeocoengheaaa
set_option maxRecDepth 100000
open Go.RowKit

set_option maxHeartbeats 1000000 in
theorem bbits_is (l : List Bool) (w : World) (h : l.length ≤ 64) :
    Calls Try.prog 36 #[.agg #[.int .i64 1, .int .i64 0, .int .i64 0, .int .i64 0, .int .i64 0, .int .u64 (bN l), .int .u64 l.length]] w fun e w' =>
      e = .returned (.agg #[.int .u64 (bN l), .int .i64 l.length]) ∧ Below w.heap.size w w' := by
  have h1 : (l.length : Int) ≤ 64 := by omega
  clear h
  generalize (bN l : Int) = x at *
  generalize l.length = n at *
  go_enter Try.func36, Try.ntmps36
  go_wp2_with fail
  refine bodyPost_ret (v := .agg #[.int .u64 x, .int .i64 n]) (by simp [results, Try.results36, go_sem]) rfl ⟨rfl, ?_⟩
  exact ((Below.refl w.heap.size w).alloc (Nat.le_refl _) _).alloc (by simp) _
section
variable {K : Nat → Prop} {p : Nat} {s : Ar} {w : World}
set_option maxHeartbeats 1000000 in
theorem blen_is {h : Int} {v : View} (hv : Vw s h v) (ha : Ars w K p s) (hf : s.Fit) :
    Calls Try.prog 13 #[.pointer (some ⟨p, 0, none⟩), .int .i64 h] w fun r w' => r = .returned (.int .i64 v.len) ∧ Ars w' K p s ∧ Below w.heap.size w w' := by
  cases v with
  | none =>
    obtain ⟨x, hx⟩ := row_none hv ha hf
    have H := Lib.hid hx
    clear hv ha hf hx
    show Calls _ _ _ _ fun r w' => r = .returned (.int .i64 ((0 : Nat) : Int)) ∧ _
    go_enter Try.func13, Try.ntmps13
    go_wp2_with fail
    refine H.out.mono ?_
    rintro e w1 ⟨rfl, ha, hk⟩
    go_wp2_with fail
    go_ret
    exact ⟨rfl, ha.alloc _, hk.alloc hk.size _⟩
  | leaf l =>
    have H := Lib.hid (row_leaf hv ha hf)
    have hl : l.length ≤ 64 := hv.2.2
    have hl' : (l.length : Int) ≤ 64 := by omega
    clear hv ha hf hl
    show Calls _ _ _ _ fun r w' => r = .returned (.int .i64 ((l.length : Nat) : Int)) ∧ _
    go_enter Try.func13, Try.ntmps13
    go_wp2_with fail
    refine H.out.mono ?_
    rintro e w1 ⟨rfl, ha, hk⟩
    go_wp2_with fail
    go_ret
    exact ⟨rfl, ha.alloc _, hk.alloc hk.size _⟩
  | fork k0 k1 m o =>
    have H := Lib.hid (row_fork hv ha hf)
    have hl : m ≤ 1000000 := hv.2.2.1
    have hl' : (m : Int) ≤ 1000000 := by omega
    clear hv ha hf hl
    show Calls _ _ _ _ fun r w' => r = .returned (.int .i64 ((m : Nat) : Int)) ∧ _
    go_enter Try.func13, Try.ntmps13
    go_wp2_with fail
    refine H.out.mono ?_
    rintro e w1 ⟨rfl, ha, hk⟩
    go_wp2_with fail
    go_ret
    exact ⟨rfl, ha.alloc _, hk.alloc hk.size _⟩
set_option maxHeartbeats 4000000 in
theorem bones_is {h : Int} {v : View} (hv : Vw s h v) (ha : Ars w K p s) (hf : s.Fit) :
    Calls Try.prog 39 #[.pointer (some ⟨p, 0, none⟩), .int .i64 h] w fun r w' => r = .returned (.int .i64 v.ones) ∧ Ars w' K p s ∧ Below w.heap.size w w' := by
  cases v with
  | none =>
    obtain ⟨x, hx⟩ := row_none hv ha hf
    have H := Lib.hid hx
    clear hv ha hf hx
    show Calls _ _ _ _ fun r w' => r = .returned (.int .i64 ((0 : Nat) : Int)) ∧ _
    go_enter Try.func39, Try.ntmps39
    go_wp2_with fail
    refine H.out.mono ?_
    rintro e w1 ⟨rfl, ha, hk⟩
    go_wp2_with fail
    go_ret
    exact ⟨rfl, ha.alloc _, hk.alloc hk.size _⟩
  | leaf l =>
    have H := Lib.hid (row_leaf hv ha hf)
    have hl : l.length ≤ 64 := hv.2.2
    have hl' : (l.length : Int) ≤ 64 := by omega
    have HB := fun w => Lib.hid (bbits_is l w hl)
    have HR := fun w => lrank_is l l.length w hl (Nat.le_refl _)
    rw [List.take_length] at HR
    replace HR := fun w => Lib.hid (HR w)
    clear hv ha hf hl
    show Calls _ _ _ _ fun r w' => r = .returned (.int .i64 ((l.count true : Nat) : Int)) ∧ _
    generalize l.count true = c at *
    generalize (bN l : Int) = x at *
    generalize l.length = n at *
    go_enter Try.func39, Try.ntmps39
    go_wp2_with fail
    refine H.out.mono ?_
    rintro e w1 ⟨rfl, ha, hk⟩
    go_wp2_with fail
    have hbx := heap_alloc_new w1 (.cells #[.int .i64 1, .int .i64 0, .int .i64 0, .int .i64 0, .int .i64 0, .int .u64 x, .int .u64 n] 44)
    have hb0 := Lib.hid (hk.alloc hk.size (.cells #[.int .i64 1, .int .i64 0, .int .i64 0, .int .i64 0, .int .i64 0, .int .u64 x, .int .u64 n] 44))
    have Ha := Lib.hid (ha.alloc (.cells #[.int .i64 1, .int .i64 0, .int .i64 0, .int .i64 0, .int .i64 0, .int .u64 x, .int .u64 n] 44))
    clear ha hk
    generalize w1.alloc (.cells #[.int .i64 1, .int .i64 0, .int .i64 0, .int .i64 0, .int .i64 0, .int .u64 x, .int .u64 n] 44) = w2 at *
    generalize w1.heap.size = z at *
    have y0 : w2.cell? ⟨z, 0, none⟩ = some (.int .i64 1) := cell_of_row _ _ _ _ _ _ hbx
    have y1 : w2.cell? ⟨z, 1, none⟩ = some (.int .i64 0) := cell_of_row _ _ _ _ _ _ hbx
    have y2 : w2.cell? ⟨z, 2, none⟩ = some (.int .i64 0) := cell_of_row _ _ _ _ _ _ hbx
    have y3 : w2.cell? ⟨z, 3, none⟩ = some (.int .i64 0) := cell_of_row _ _ _ _ _ _ hbx
    have y4 : w2.cell? ⟨z, 4, none⟩ = some (.int .i64 0) := cell_of_row _ _ _ _ _ _ hbx
    have y5 : w2.cell? ⟨z, 5, none⟩ = some (.int .u64 x) := cell_of_row _ _ _ _ _ _ hbx
    have y6 : w2.cell? ⟨z, 6, none⟩ = some (.int .u64 n) := cell_of_row _ _ _ _ _ _ hbx
    have Hz := Lib.hid (lt_heap hbx)
    clear hbx
    have hw1 : wrap64 (n : Int) = (n : Int) := IntWalk.wrap64_in _ (by omega)
    have hw2 : IntKind.i64.wrap (n : Int) = (n : Int) := (IntWalk.i64_left _).trans hw1
    go_region_held3 (fun w' => w'.cell? ⟨z, 0, none⟩ = some (.int .i64 1) ∧ w'.cell? ⟨z, 1, none⟩ = some (.int .i64 0) ∧ w'.cell? ⟨z, 2, none⟩ = some (.int .i64 0) ∧ w'.cell? ⟨z, 3, none⟩ = some (.int .i64 0) ∧ w'.cell? ⟨z, 4, none⟩ = some (.int .i64 0) ∧ w'.cell? ⟨z, 5, none⟩ = some (.int .u64 x) ∧ w'.cell? ⟨z, 6, none⟩ = some (.int .u64 n)) (first | assumption | exact ⟨y0, y1, y2, y3, y4, y5, y6⟩ | go_keep)
      ((first | (go_at_call 38; refine (HR _).out.mono ?_; rintro e w4 ⟨rfl, k4⟩; have hq4 := And.intro ((k4.cell (p := ⟨z, 0, none⟩) Hz3.out).trans hq3.1) (And.intro ((k4.cell (p := ⟨z, 1, none⟩) Hz3.out).trans hq3.2.1) (And.intro ((k4.cell (p := ⟨z, 2, none⟩) Hz3.out).trans hq3.2.2.1) (And.intro ((k4.cell (p := ⟨z, 3, none⟩) Hz3.out).trans hq3.2.2.2.1) (And.intro ((k4.cell (p := ⟨z, 4, none⟩) Hz3.out).trans hq3.2.2.2.2.1) (And.intro ((k4.cell (p := ⟨z, 5, none⟩) Hz3.out).trans hq3.2.2.2.2.2.1) ((k4.cell (p := ⟨z, 6, none⟩) Hz3.out).trans hq3.2.2.2.2.2.2))))))) | (go_at_call 36; refine (HB _).out.mono ?_; rintro e w3 ⟨rfl, k3⟩; have hq3 := And.intro ((k3.cell (p := ⟨z, 0, none⟩) Hz.out).trans y0) (And.intro ((k3.cell (p := ⟨z, 1, none⟩) Hz.out).trans y1) (And.intro ((k3.cell (p := ⟨z, 2, none⟩) Hz.out).trans y2) (And.intro ((k3.cell (p := ⟨z, 3, none⟩) Hz.out).trans y3) (And.intro ((k3.cell (p := ⟨z, 4, none⟩) Hz.out).trans y4) (And.intro ((k3.cell (p := ⟨z, 5, none⟩) Hz.out).trans y5) ((k3.cell (p := ⟨z, 6, none⟩) Hz.out).trans y6)))))); have Hz3 := Lib.hid (show z < w3.heap.size from Nat.lt_of_lt_of_le Hz.out k3.size))))
    all_goals
      go_wp2_with fail
      go_ret
      have hf := (Below.trans (Below.refl w2.heap.size w2).drew k3).trans (k4.mono k3.size)
      exact ⟨rfl, Ha.out.below hf, hb0.out.trans (hf.mono hb0.out.size)⟩
  | fork k0 k1 m o =>
    have H := Lib.hid (row_fork hv ha hf)
    have hl : o ≤ 1000000 := hv.2.2.2
    have hl' : (o : Int) ≤ 1000000 := by omega
    clear hv ha hf hl
    show Calls _ _ _ _ fun r w' => r = .returned (.int .i64 ((o : Nat) : Int)) ∧ _
    go_enter Try.func39, Try.ntmps39
    go_wp2_with fail
    refine H.out.mono ?_
    rintro e w1 ⟨rfl, ha, hk⟩
    go_wp2_with fail
    go_ret
    exact ⟨rfl, ha.alloc _, hk.alloc hk.size _⟩
end
end Go.Proofs.Ytjfeocoengheaaa
