/- A tree of package bits that makes nodes: how high a row is; whether it is too small. -/
import Derived.Test.YtjfeocoengheaaaBw6
namespace Go.Proofs.Ytjfeocoengheaaa
set_option maxRecDepth 100000
open Go.RowKit

section
variable {K : Nat → Prop} {q p : Nat} {s : Ar} {e h : Int}
set_option maxHeartbeats 4000000 in
theorem bhigh_is (sn : Snd s) {d : Nat} (HH : High s h d) : ∀ w, BTre w K q p s e →
    Calls Try.prog 65 #[.pointer (some ⟨q, 0, none⟩), .int .i64 h] w fun r w' => r = .returned (.int .i64 d) ∧ BTre w' K q p s e ∧ Below w.heap.size w w' := by
  induction HH with
  | none v =>
    intro w ha
    have c0 := ha.c0
    obtain ⟨x, hx⟩ := row_none v ha.ars sn.fit
    have H := Lib.hid hx
    have Ha := Lib.hid ha
    clear ha v hx sn
    go_enter Try.func65, Try.ntmps65
    go_wp2_with fail
    refine H.out.mono ?_
    rintro e w1 ⟨rfl, ha, hk⟩
    go_wp2_with fail
    go_ret
    exact ⟨rfl, Ha.out.below (hk.alloc hk.size _), hk.alloc hk.size _⟩
  | leaf v =>
    intro w ha
    have c0 := ha.c0
    have H := Lib.hid (row_leaf v ha.ars sn.fit)
    have Ha := Lib.hid ha
    clear ha v sn
    go_enter Try.func65, Try.ntmps65
    go_wp2_with fail
    refine H.out.mono ?_
    rintro e w1 ⟨rfl, ha, hk⟩
    go_wp2_with fail
    go_ret
    exact ⟨rfl, Ha.out.below (hk.alloc hk.size _), hk.alloc hk.size _⟩
  | @fork h k0 k1 m o a b v _ _ ha1 hb1 ihl ihr =>
    intro w ha
    have c0 := ha.c0
    have H := Lib.hid (row_fork v ha.ars sn.fit)
    have Hl := fun w y => Lib.hid (ihl w y)
    have Hr := fun w y => Lib.hid (ihr w y)
    have Ha := Lib.hid ha
    clear ha v sn ihl ihr
    go_enter Try.func65, Try.ntmps65
    go_wp2_with fail
    refine H.out.mono ?_
    rintro e w1 ⟨rfl, ha, hk⟩
    go_wp2_with fail
    have HB := Lib.hid (hk.alloc hk.size (.cells #[.int .i64 2, .int .i64 k0, .int .i64 k1, .int .i64 0, .int .i64 0, .int .u64 m, .int .u64 o] 44))
    have hx := heap_alloc_new w1 (.cells #[.int .i64 2, .int .i64 k0, .int .i64 k1, .int .i64 0, .int .i64 0, .int .u64 m, .int .u64 o] 44)
    generalize w1.alloc (.cells #[.int .i64 2, .int .i64 k0, .int .i64 k1, .int .i64 0, .int .i64 0, .int .u64 m, .int .u64 o] 44) = w2 at *
    generalize w1.heap.size = z at *
    have y1 : w2.cell? ⟨z, 1, none⟩ = some (.int .i64 k0) := cell_of_row _ _ _ _ _ _ hx
    have y2 : w2.cell? ⟨z, 2, none⟩ = some (.int .i64 k1) := cell_of_row _ _ _ _ _ _ hx
    have hz := Lib.hid (lt_heap hx)
    have HA := Lib.hid (Ha.out.below HB.out).drew
    clear hx ha hk H
    first | go_region_with (first | (go_at_call_of 65 (Value.int .i64 k0); refine (Hl _ HA.out).out.mono ?_; rintro e w3 ⟨rfl, ha3, hk3⟩; have y3 : w3.cell? ⟨z, 2, none⟩ = some (.int .i64 k1) := (World.cell?_of_block (hk3.block _ hz.out)).trans y2; have H3 := Lib.hid ha3; have HB3 := Lib.hid (HB.out.drew.trans (hk3.mono HB.out.size)); clear ha3 hk3) | (go_at_call_of 65 (Value.int .i64 k1); refine (Hr _ H3.out).out.mono ?_; rintro e w4 ⟨rfl, ha4, hk4⟩; have H4 := Lib.hid ha4; have HB4 := Lib.hid (HB3.out.trans (hk4.mono HB3.out.size)); clear ha4 hk4)) | fail
    all_goals go_wp2_with fail
    all_goals go_ret
    all_goals refine ⟨congrArg (fun n => Ending.returned (Value.int .i64 n)) ?_, H4.out, HB4.out⟩
    all_goals rw [bwrap_small (by omega) (by omega)]
    all_goals omega
set_option maxHeartbeats 2000000 in
theorem bsmall_is {v : View} {w : World} (sn : Snd s) (hv : Vw s h v) (ha : BTre w K q p s e) :
    Calls Try.prog 68 #[.pointer (some ⟨q, 0, none⟩), .int .i64 h] w fun r w' => r = .returned (.bool v.small) ∧ BTre w' K q p s e ∧ Below w.heap.size w w' := by
  have c0 := ha.c0
  cases v with
  | none =>
    obtain ⟨x, hx⟩ := row_none hv ha.ars sn.fit
    have H := Lib.hid hx
    have Ha := Lib.hid ha
    clear ha hv hx sn
    show Calls _ _ _ _ fun r w' => r = .returned (.bool false) ∧ _
    go_enter Try.func68, Try.ntmps68
    go_wp2_with fail
    refine H.out.mono ?_
    rintro e w1 ⟨rfl, ha, hk⟩
    go_wp2_with fail
    go_ret
    exact ⟨rfl, Ha.out.below (hk.alloc hk.size _), hk.alloc hk.size _⟩
  | leaf l =>
    have H := Lib.hid (row_leaf hv ha.ars sn.fit)
    have Ha := Lib.hid ha
    have hsm : (View.leaf l).small = decide (l.length < 16) := rfl
    rw [hsm]
    clear ha hv sn hsm
    by_cases c : l.length < 16
    · have c' : (l.length : Int) < 16 := by omega
      rw [decide_eq_true c]
      clear c
      go_enter Try.func68, Try.ntmps68
      go_wp2_with fail
      refine H.out.mono ?_
      rintro e w1 ⟨rfl, ha, hk⟩
      go_wp2_with fail
      go_ret
      exact ⟨rfl, Ha.out.below (hk.alloc hk.size _), hk.alloc hk.size _⟩
    · have c' : 16 ≤ (l.length : Int) := by omega
      rw [decide_eq_false c]
      clear c
      go_enter Try.func68, Try.ntmps68
      go_wp2_with fail
      refine H.out.mono ?_
      rintro e w1 ⟨rfl, ha, hk⟩
      go_wp2_with fail
      go_ret
      exact ⟨by show Ending.returned (.bool (decide ((l.length : Int) < 16))) = _; rw [decide_eq_false (by omega)], Ha.out.below (hk.alloc hk.size _), hk.alloc hk.size _⟩
  | fork k0 k1 m o =>
    have H := Lib.hid (row_fork hv ha.ars sn.fit)
    have Ha := Lib.hid ha
    clear ha hv sn
    show Calls _ _ _ _ fun r w' => r = .returned (.bool false) ∧ _
    go_enter Try.func68, Try.ntmps68
    go_wp2_with fail
    refine H.out.mono ?_
    rintro e w1 ⟨rfl, ha, hk⟩
    go_wp2_with fail
    go_ret
    exact ⟨rfl, Ha.out.below (hk.alloc hk.size _), hk.alloc hk.size _⟩
end
end Go.Proofs.Ytjfeocoengheaaa
