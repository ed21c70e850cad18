/- ArenaTwice holds: a kid that is there twice is counted twice; it goes when both are gone. No condition. -/
import Derived.Test.YtajkhkgakafgkaaA8
import Derived.Test.YtajkhkgakafgkaaLaw
namespace Go.Proofs.Ytajkhkgakafgkaa.arenaTwice
open Go.ChangeShapes Go.WideShapes Go.ChangeAt Go.RowKit
set_option linter.unusedVariables false

def s1 : Ar := ((Ar.new 5).make ⟨1, 0, 0, 0, 0, 0, 0⟩).1
theorem s1ok : s1.Ok 4 := ok_make (ok_new (by decide) (by decide)) _
def x1 : Nd := ⟨2, 1, 0, 0, 0, 0, 0⟩
def x2 : Nd := ⟨2, 1, 1, 0, 0, 0, 0⟩
def x3 : Nd := ⟨2, 1, 1, 1, 0, 0, 0⟩
def x4 : Nd := ⟨2, 1, 1, 1, 1, 0, 0⟩
def t1 (x : Nd) : Ar := (s1.make x).1
def t2 (x : Nd) : Ar := ((t1 x).drop 1).1
def t3 (x : Nd) : Ar := ((t2 x).drop 2).1
def t4 (x : Nd) : Ar := ((t3 x).work 1).1
def t5 (x : Nd) : Ar := ((t4 x).work 1).1
theorem k1 (x : Nd) : (t1 x).Ok 8 := ok_make s1ok x
theorem k2 (x : Nd) : (t2 x).Ok 8 := ok_drop (k1 x) 1
theorem k3 (x : Nd) : (t3 x).Ok 8 := ok_drop (k2 x) 2
theorem k4 (x : Nd) : (t4 x).Ok 8 := ok_work 1 (k3 x)
set_option maxHeartbeats 2000000 in
theorem walk (n : Int) (w0 : (Lit.int .i64 n).wf = true) (w : World) :
    Calls Try.prog 6 #[.int .i64 n] w fun e w' => e = .returned (.bool true) ∧ Below w.heap.size w w' := by
  have HA := Lib.hid alive6
  obtain ⟨K, hK⟩ : ∃ K : Nat → Prop, K = fun b => b < w.heap.size := ⟨_, rfl⟩
  have HK := Lib.hid hK
  clear hK
  by_cases hn : n < 1 ∨ 4 < n
  · rcases hn with hn | hn
    · go_enter Try.func6, Try.ntmps6
      go_wp2_with fail
      refine (HA.out w).mono ?_
      rintro e w1 ⟨rfl, hb⟩
      go_wp2_with fail
      go_ret
      exact ⟨rfl, hb⟩
    · have hn' : ¬ n < 1 := by omega
      go_enter Try.func6, Try.ntmps6
      go_wp2_with fail
      refine (HA.out w).mono ?_
      rintro e w1 ⟨rfl, hb⟩
      go_wp2_with fail
      go_ret
      exact ⟨rfl, hb⟩
  have hc : n = 1 ∨ n = 2 ∨ n = 3 ∨ n = 4 := by omega
  clear hn
  rcases hc with rfl | rfl | rfl | rfl
  · skip
    go_enter Try.func6, Try.ntmps6
    go_wp2_with fail
    refine (HA.out w).mono ?_
    rintro e w1 ⟨rfl, hb⟩
    have Hk := Lib.hid (Kept.of_below hb K)
    clear hb
    go_wp2_with fail
    refine (new_yes 5 _ (by decide) (by decide)).mono ?_
    rintro e w2 ⟨p, rfl, hb, ha⟩
    replace ha := ha K (fun b h => by rw [HK.out] at h; have := Hk.out.size; omega)
    replace Hk := Lib.hid (Hk.out.trans (Kept.of_below hb K))
    clear hb
    have H := Lib.hid (make_is (s' := s1) (h := 1) (e := 0) ⟨1, 0, 0, 0, 0, 0, 0⟩ rfl ha (ok_new (by decide) (by decide)) (by decide))
    clear ha
    go_wp2_with fail
    refine H.out.mono ?_
    clear H
    rintro e w3 ⟨rfl, ha, hk⟩
    replace Hk := Lib.hid (Hk.out.trans hk)
    clear hk
    go_wp2_with fail
    refine wp_loop_rounds (1 + 1) ?_
    rw [rounds_succ]
    go_wp2_with fail
    rw [rounds_succ]
    go_wp2_with fail
    replace Hk := Lib.hid (Hk.out.alloc (.cells #[.int .i64 1, .int .i64 0, .int .i64 0, .int .i64 0] 28))
    replace ha := ha.alloc (.cells #[.int .i64 1, .int .i64 0, .int .i64 0, .int .i64 0] 28)
    have H := Lib.hid (make_is (s' := t1 x1) (h := 2) (e := 0) x1 rfl ha s1ok (by decide))
    clear ha
    go_wp2_with fail
    refine H.out.mono ?_
    clear H
    rintro e w4 ⟨rfl, ha, hk⟩
    replace Hk := Lib.hid (Hk.out.trans hk)
    clear hk
    have H := Lib.hid (count_is (c := 1 + 1) 1 rfl ha ((k1 x1).fit (by decide)))
    go_wp2_with fail
    refine H.out.mono ?_
    clear H
    rintro e w' ⟨rfl, rfl⟩
    have H := Lib.hid (drop_is (s' := t2 x1) (e := 0) 1 rfl ha ((k1 x1).fit (by decide)))
    clear ha
    go_wp2_with fail
    refine H.out.mono ?_
    clear H
    rintro e w5 ⟨rfl, ha, hk⟩
    replace Hk := Lib.hid (Hk.out.trans hk)
    clear hk
    have H := Lib.hid (count_is (c := 1) 1 rfl ha ((k2 x1).fit (by decide)))
    go_wp2_with fail
    refine H.out.mono ?_
    clear H
    rintro e w' ⟨rfl, rfl⟩
    have H := Lib.hid (drop_is (s' := t3 x1) (e := 0) 2 rfl ha ((k2 x1).fit (by decide)))
    clear ha
    go_wp2_with fail
    refine H.out.mono ?_
    clear H
    rintro e w6 ⟨rfl, ha, hk⟩
    replace Hk := Lib.hid (Hk.out.trans hk)
    clear hk
    have H := Lib.hid (count_is (c := 1) 1 rfl ha ((k3 x1).fit (by decide)))
    go_wp2_with fail
    refine H.out.mono ?_
    clear H
    rintro e w' ⟨rfl, rfl⟩
    have H := Lib.hid (work_is (s' := t4 x1) (n := 1) (m := 1) 1 rfl rfl ha (k3 x1) (by decide) (by decide))
    clear ha
    go_wp2_with fail
    refine H.out.mono ?_
    clear H
    rintro e w7 ⟨rfl, ha, hk⟩
    replace Hk := Lib.hid (Hk.out.trans hk)
    clear hk
    have H := Lib.hid (count_is (c := 0) 1 rfl ha ((k4 x1).fit (by decide)))
    go_wp2_with fail
    refine H.out.mono ?_
    clear H
    rintro e w' ⟨rfl, rfl⟩
    have H := Lib.hid (pending_is (c := 1) rfl ha)
    go_wp2_with fail
    refine H.out.mono ?_
    clear H
    rintro e w' ⟨rfl, rfl⟩
    have H := Lib.hid (keep_is (s' := t4 x1) (e := 9) 1 rfl ha ((k4 x1).fit (by decide)))
    clear ha
    go_wp2_with fail
    refine H.out.mono ?_
    clear H
    rintro e w8 ⟨rfl, ha, hk⟩
    replace Hk := Lib.hid (Hk.out.trans hk)
    clear hk
    have H := Lib.hid (work_is (s' := t5 x1) (n := 1) (m := 1) 1 rfl rfl ha (k4 x1) (by decide) (by decide))
    clear ha
    go_wp2_with fail
    refine H.out.mono ?_
    clear H
    rintro e w9 ⟨rfl, ha, hk⟩
    replace Hk := Lib.hid (Hk.out.trans hk)
    clear hk
    have H := Lib.hid (used_is (c := 0) rfl ha)
    go_wp2_with fail
    refine H.out.mono ?_
    clear H
    rintro e w' ⟨rfl, rfl⟩
    go_wp2_with fail
    go_ret
    exact ⟨rfl, Hk.out.below fun b hb => by rw [HK.out]; exact hb⟩
  · skip
    go_enter Try.func6, Try.ntmps6
    go_wp2_with fail
    refine (HA.out w).mono ?_
    rintro e w1 ⟨rfl, hb⟩
    have Hk := Lib.hid (Kept.of_below hb K)
    clear hb
    go_wp2_with fail
    refine (new_yes 5 _ (by decide) (by decide)).mono ?_
    rintro e w2 ⟨p, rfl, hb, ha⟩
    replace ha := ha K (fun b h => by rw [HK.out] at h; have := Hk.out.size; omega)
    replace Hk := Lib.hid (Hk.out.trans (Kept.of_below hb K))
    clear hb
    have H := Lib.hid (make_is (s' := s1) (h := 1) (e := 0) ⟨1, 0, 0, 0, 0, 0, 0⟩ rfl ha (ok_new (by decide) (by decide)) (by decide))
    clear ha
    go_wp2_with fail
    refine H.out.mono ?_
    clear H
    rintro e w3 ⟨rfl, ha, hk⟩
    replace Hk := Lib.hid (Hk.out.trans hk)
    clear hk
    go_wp2_with fail
    refine wp_loop_rounds (2 + 1) ?_
    rw [rounds_succ]
    go_wp2_with fail
    rw [rounds_succ]
    go_wp2_with fail
    rw [rounds_succ]
    go_wp2_with fail
    replace Hk := Lib.hid (Hk.out.alloc (.cells #[.int .i64 1, .int .i64 1, .int .i64 0, .int .i64 0] 28))
    replace ha := ha.alloc (.cells #[.int .i64 1, .int .i64 1, .int .i64 0, .int .i64 0] 28)
    have H := Lib.hid (make_is (s' := t1 x2) (h := 2) (e := 0) x2 rfl ha s1ok (by decide))
    clear ha
    go_wp2_with fail
    refine H.out.mono ?_
    clear H
    rintro e w4 ⟨rfl, ha, hk⟩
    replace Hk := Lib.hid (Hk.out.trans hk)
    clear hk
    have H := Lib.hid (count_is (c := 2 + 1) 1 rfl ha ((k1 x2).fit (by decide)))
    go_wp2_with fail
    refine H.out.mono ?_
    clear H
    rintro e w' ⟨rfl, rfl⟩
    have H := Lib.hid (drop_is (s' := t2 x2) (e := 0) 1 rfl ha ((k1 x2).fit (by decide)))
    clear ha
    go_wp2_with fail
    refine H.out.mono ?_
    clear H
    rintro e w5 ⟨rfl, ha, hk⟩
    replace Hk := Lib.hid (Hk.out.trans hk)
    clear hk
    have H := Lib.hid (count_is (c := 2) 1 rfl ha ((k2 x2).fit (by decide)))
    go_wp2_with fail
    refine H.out.mono ?_
    clear H
    rintro e w' ⟨rfl, rfl⟩
    have H := Lib.hid (drop_is (s' := t3 x2) (e := 0) 2 rfl ha ((k2 x2).fit (by decide)))
    clear ha
    go_wp2_with fail
    refine H.out.mono ?_
    clear H
    rintro e w6 ⟨rfl, ha, hk⟩
    replace Hk := Lib.hid (Hk.out.trans hk)
    clear hk
    have H := Lib.hid (count_is (c := 2) 1 rfl ha ((k3 x2).fit (by decide)))
    go_wp2_with fail
    refine H.out.mono ?_
    clear H
    rintro e w' ⟨rfl, rfl⟩
    have H := Lib.hid (work_is (s' := t4 x2) (n := 1) (m := 1) 1 rfl rfl ha (k3 x2) (by decide) (by decide))
    clear ha
    go_wp2_with fail
    refine H.out.mono ?_
    clear H
    rintro e w7 ⟨rfl, ha, hk⟩
    replace Hk := Lib.hid (Hk.out.trans hk)
    clear hk
    have H := Lib.hid (count_is (c := 0) 1 rfl ha ((k4 x2).fit (by decide)))
    go_wp2_with fail
    refine H.out.mono ?_
    clear H
    rintro e w' ⟨rfl, rfl⟩
    have H := Lib.hid (pending_is (c := 1) rfl ha)
    go_wp2_with fail
    refine H.out.mono ?_
    clear H
    rintro e w' ⟨rfl, rfl⟩
    have H := Lib.hid (keep_is (s' := t4 x2) (e := 9) 1 rfl ha ((k4 x2).fit (by decide)))
    clear ha
    go_wp2_with fail
    refine H.out.mono ?_
    clear H
    rintro e w8 ⟨rfl, ha, hk⟩
    replace Hk := Lib.hid (Hk.out.trans hk)
    clear hk
    have H := Lib.hid (work_is (s' := t5 x2) (n := 1) (m := 1) 1 rfl rfl ha (k4 x2) (by decide) (by decide))
    clear ha
    go_wp2_with fail
    refine H.out.mono ?_
    clear H
    rintro e w9 ⟨rfl, ha, hk⟩
    replace Hk := Lib.hid (Hk.out.trans hk)
    clear hk
    have H := Lib.hid (used_is (c := 0) rfl ha)
    go_wp2_with fail
    refine H.out.mono ?_
    clear H
    rintro e w' ⟨rfl, rfl⟩
    go_wp2_with fail
    go_ret
    exact ⟨rfl, Hk.out.below fun b hb => by rw [HK.out]; exact hb⟩
  · skip
    go_enter Try.func6, Try.ntmps6
    go_wp2_with fail
    refine (HA.out w).mono ?_
    rintro e w1 ⟨rfl, hb⟩
    have Hk := Lib.hid (Kept.of_below hb K)
    clear hb
    go_wp2_with fail
    refine (new_yes 5 _ (by decide) (by decide)).mono ?_
    rintro e w2 ⟨p, rfl, hb, ha⟩
    replace ha := ha K (fun b h => by rw [HK.out] at h; have := Hk.out.size; omega)
    replace Hk := Lib.hid (Hk.out.trans (Kept.of_below hb K))
    clear hb
    have H := Lib.hid (make_is (s' := s1) (h := 1) (e := 0) ⟨1, 0, 0, 0, 0, 0, 0⟩ rfl ha (ok_new (by decide) (by decide)) (by decide))
    clear ha
    go_wp2_with fail
    refine H.out.mono ?_
    clear H
    rintro e w3 ⟨rfl, ha, hk⟩
    replace Hk := Lib.hid (Hk.out.trans hk)
    clear hk
    go_wp2_with fail
    refine wp_loop_rounds (3 + 1) ?_
    rw [rounds_succ]
    go_wp2_with fail
    rw [rounds_succ]
    go_wp2_with fail
    rw [rounds_succ]
    go_wp2_with fail
    rw [rounds_succ]
    go_wp2_with fail
    replace Hk := Lib.hid (Hk.out.alloc (.cells #[.int .i64 1, .int .i64 1, .int .i64 1, .int .i64 0] 28))
    replace ha := ha.alloc (.cells #[.int .i64 1, .int .i64 1, .int .i64 1, .int .i64 0] 28)
    have H := Lib.hid (make_is (s' := t1 x3) (h := 2) (e := 0) x3 rfl ha s1ok (by decide))
    clear ha
    go_wp2_with fail
    refine H.out.mono ?_
    clear H
    rintro e w4 ⟨rfl, ha, hk⟩
    replace Hk := Lib.hid (Hk.out.trans hk)
    clear hk
    have H := Lib.hid (count_is (c := 3 + 1) 1 rfl ha ((k1 x3).fit (by decide)))
    go_wp2_with fail
    refine H.out.mono ?_
    clear H
    rintro e w' ⟨rfl, rfl⟩
    have H := Lib.hid (drop_is (s' := t2 x3) (e := 0) 1 rfl ha ((k1 x3).fit (by decide)))
    clear ha
    go_wp2_with fail
    refine H.out.mono ?_
    clear H
    rintro e w5 ⟨rfl, ha, hk⟩
    replace Hk := Lib.hid (Hk.out.trans hk)
    clear hk
    have H := Lib.hid (count_is (c := 3) 1 rfl ha ((k2 x3).fit (by decide)))
    go_wp2_with fail
    refine H.out.mono ?_
    clear H
    rintro e w' ⟨rfl, rfl⟩
    have H := Lib.hid (drop_is (s' := t3 x3) (e := 0) 2 rfl ha ((k2 x3).fit (by decide)))
    clear ha
    go_wp2_with fail
    refine H.out.mono ?_
    clear H
    rintro e w6 ⟨rfl, ha, hk⟩
    replace Hk := Lib.hid (Hk.out.trans hk)
    clear hk
    have H := Lib.hid (count_is (c := 3) 1 rfl ha ((k3 x3).fit (by decide)))
    go_wp2_with fail
    refine H.out.mono ?_
    clear H
    rintro e w' ⟨rfl, rfl⟩
    have H := Lib.hid (work_is (s' := t4 x3) (n := 1) (m := 1) 1 rfl rfl ha (k3 x3) (by decide) (by decide))
    clear ha
    go_wp2_with fail
    refine H.out.mono ?_
    clear H
    rintro e w7 ⟨rfl, ha, hk⟩
    replace Hk := Lib.hid (Hk.out.trans hk)
    clear hk
    have H := Lib.hid (count_is (c := 0) 1 rfl ha ((k4 x3).fit (by decide)))
    go_wp2_with fail
    refine H.out.mono ?_
    clear H
    rintro e w' ⟨rfl, rfl⟩
    have H := Lib.hid (pending_is (c := 1) rfl ha)
    go_wp2_with fail
    refine H.out.mono ?_
    clear H
    rintro e w' ⟨rfl, rfl⟩
    have H := Lib.hid (keep_is (s' := t4 x3) (e := 9) 1 rfl ha ((k4 x3).fit (by decide)))
    clear ha
    go_wp2_with fail
    refine H.out.mono ?_
    clear H
    rintro e w8 ⟨rfl, ha, hk⟩
    replace Hk := Lib.hid (Hk.out.trans hk)
    clear hk
    have H := Lib.hid (work_is (s' := t5 x3) (n := 1) (m := 1) 1 rfl rfl ha (k4 x3) (by decide) (by decide))
    clear ha
    go_wp2_with fail
    refine H.out.mono ?_
    clear H
    rintro e w9 ⟨rfl, ha, hk⟩
    replace Hk := Lib.hid (Hk.out.trans hk)
    clear hk
    have H := Lib.hid (used_is (c := 0) rfl ha)
    go_wp2_with fail
    refine H.out.mono ?_
    clear H
    rintro e w' ⟨rfl, rfl⟩
    go_wp2_with fail
    go_ret
    exact ⟨rfl, Hk.out.below fun b hb => by rw [HK.out]; exact hb⟩
  · skip
    go_enter Try.func6, Try.ntmps6
    go_wp2_with fail
    refine (HA.out w).mono ?_
    rintro e w1 ⟨rfl, hb⟩
    have Hk := Lib.hid (Kept.of_below hb K)
    clear hb
    go_wp2_with fail
    refine (new_yes 5 _ (by decide) (by decide)).mono ?_
    rintro e w2 ⟨p, rfl, hb, ha⟩
    replace ha := ha K (fun b h => by rw [HK.out] at h; have := Hk.out.size; omega)
    replace Hk := Lib.hid (Hk.out.trans (Kept.of_below hb K))
    clear hb
    have H := Lib.hid (make_is (s' := s1) (h := 1) (e := 0) ⟨1, 0, 0, 0, 0, 0, 0⟩ rfl ha (ok_new (by decide) (by decide)) (by decide))
    clear ha
    go_wp2_with fail
    refine H.out.mono ?_
    clear H
    rintro e w3 ⟨rfl, ha, hk⟩
    replace Hk := Lib.hid (Hk.out.trans hk)
    clear hk
    go_wp2_with fail
    refine wp_loop_rounds (4 + 1) ?_
    rw [rounds_succ]
    go_wp2_with fail
    rw [rounds_succ]
    go_wp2_with fail
    rw [rounds_succ]
    go_wp2_with fail
    rw [rounds_succ]
    go_wp2_with fail
    rw [rounds_succ]
    go_wp2_with fail
    replace Hk := Lib.hid (Hk.out.alloc (.cells #[.int .i64 1, .int .i64 1, .int .i64 1, .int .i64 1] 28))
    replace ha := ha.alloc (.cells #[.int .i64 1, .int .i64 1, .int .i64 1, .int .i64 1] 28)
    have H := Lib.hid (make_is (s' := t1 x4) (h := 2) (e := 0) x4 rfl ha s1ok (by decide))
    clear ha
    go_wp2_with fail
    refine H.out.mono ?_
    clear H
    rintro e w4 ⟨rfl, ha, hk⟩
    replace Hk := Lib.hid (Hk.out.trans hk)
    clear hk
    have H := Lib.hid (count_is (c := 4 + 1) 1 rfl ha ((k1 x4).fit (by decide)))
    go_wp2_with fail
    refine H.out.mono ?_
    clear H
    rintro e w' ⟨rfl, rfl⟩
    have H := Lib.hid (drop_is (s' := t2 x4) (e := 0) 1 rfl ha ((k1 x4).fit (by decide)))
    clear ha
    go_wp2_with fail
    refine H.out.mono ?_
    clear H
    rintro e w5 ⟨rfl, ha, hk⟩
    replace Hk := Lib.hid (Hk.out.trans hk)
    clear hk
    have H := Lib.hid (count_is (c := 4) 1 rfl ha ((k2 x4).fit (by decide)))
    go_wp2_with fail
    refine H.out.mono ?_
    clear H
    rintro e w' ⟨rfl, rfl⟩
    have H := Lib.hid (drop_is (s' := t3 x4) (e := 0) 2 rfl ha ((k2 x4).fit (by decide)))
    clear ha
    go_wp2_with fail
    refine H.out.mono ?_
    clear H
    rintro e w6 ⟨rfl, ha, hk⟩
    replace Hk := Lib.hid (Hk.out.trans hk)
    clear hk
    have H := Lib.hid (count_is (c := 4) 1 rfl ha ((k3 x4).fit (by decide)))
    go_wp2_with fail
    refine H.out.mono ?_
    clear H
    rintro e w' ⟨rfl, rfl⟩
    have H := Lib.hid (work_is (s' := t4 x4) (n := 1) (m := 1) 1 rfl rfl ha (k3 x4) (by decide) (by decide))
    clear ha
    go_wp2_with fail
    refine H.out.mono ?_
    clear H
    rintro e w7 ⟨rfl, ha, hk⟩
    replace Hk := Lib.hid (Hk.out.trans hk)
    clear hk
    have H := Lib.hid (count_is (c := 0) 1 rfl ha ((k4 x4).fit (by decide)))
    go_wp2_with fail
    refine H.out.mono ?_
    clear H
    rintro e w' ⟨rfl, rfl⟩
    have H := Lib.hid (pending_is (c := 1) rfl ha)
    go_wp2_with fail
    refine H.out.mono ?_
    clear H
    rintro e w' ⟨rfl, rfl⟩
    have H := Lib.hid (keep_is (s' := t4 x4) (e := 9) 1 rfl ha ((k4 x4).fit (by decide)))
    clear ha
    go_wp2_with fail
    refine H.out.mono ?_
    clear H
    rintro e w8 ⟨rfl, ha, hk⟩
    replace Hk := Lib.hid (Hk.out.trans hk)
    clear hk
    have H := Lib.hid (work_is (s' := t5 x4) (n := 1) (m := 1) 1 rfl rfl ha (k4 x4) (by decide) (by decide))
    clear ha
    go_wp2_with fail
    refine H.out.mono ?_
    clear H
    rintro e w9 ⟨rfl, ha, hk⟩
    replace Hk := Lib.hid (Hk.out.trans hk)
    clear hk
    have H := Lib.hid (used_is (c := 0) rfl ha)
    go_wp2_with fail
    refine H.out.mono ?_
    clear H
    rintro e w' ⟨rfl, rfl⟩
    go_wp2_with fail
    go_ret
    exact ⟨rfl, Hk.out.below fun b hb => by rw [HK.out]; exact hb⟩

set_option maxRecDepth 100000 in
theorem lifted (os : Os) (started : os.Started) (H : Type) (enc : TypeId × Value → H) :
    ReturnsInHanded {} Try.checked os 6 .any (Rows.arenaTwiceSpec.pre6 enc Try.prog Try.f6 Rows.arenaTwiceRow.domain false) (Rows.arenaTwiceSpec.post enc Try.prog Try.f6 false true false false) := by
  refine returnsInHanded_of_change (C := Try.checked) own_ started (by kernel_rfl) Try.func6
    (ChangeSpec.witness6 (enc := enc) (C := Try.checked) false ⟨#[], #[.int .i64 0], []⟩ 8 (by kernel_rfl) (by kernel_rfl) (by kernel_rfl) (by kernel_rfl)) ?_
  intro W base args ds gs before hval0 hW _ _
  have hval : ∀ (j : Nat) t v, Try.f6.params[j]? = some t → args[j]? = some v → Value.okWide Try.prog W .any base t v := hval0
  have hW' := hW
  obtain ⟨p, q, hA0, hV, rfl, hfz, hnd⟩ := hW
  have hA : DataW.TrodAll enc Try.prog W 0 (fun _ => true) true Try.f6.params.toList args.toList ds p := hA0
  rw [Try.params6] at hA hval
  obtain ⟨v0, vs0, d0, ds0, p0, q0, hargs, rfl, rfl, h0, r0⟩ := trodAll_cons hA
  obtain ⟨rfl, rfl, rfl⟩ := trodAll_nil r0
  obtain rfl : args = #[v0] := by cases args; simp_all
  obtain ⟨a0, rfl, rfl, rfl, w0⟩ := open_int Try.underlying3 (hval 0 3 v0 rfl rfl) h0
  clear hA0 hval0
  refine (walk a0 w0 W).mono fun e W' ⟨he, hg⟩ => ?_
  subst he
  exact ⟨_, rfl, law_post laid_ (by kernel_rfl) rfl hW' hg rfl Try.underlying4 ⟨rfl, rfl, rfl⟩⟩

theorem over : Rows.arenaTwiceRow.holds Try.pinned (OpenSpec.ofChange Rows.arenaTwiceSpec) :=
  OpenClaim.holds_of_wide 6 Try.f6 rfl rfl rfl rfl rfl rfl rfl ⟨rfl, rfl, rfl, rfl, rfl⟩ rfl rfl rfl rfl rfl (by kernel_rfl) Try.func6 (by kernel_rfl)
    (of_decide_eq_true (by kernel_rfl)) (by unfold Func.isWrapper; first | (rw [if_pos (by decide +kernel)]; kernel_rfl) | (rw [if_neg (by decide +kernel)]; exact ⟨rfl, rfl⟩))
    (fun os started H enc _ => lifted os started H enc)

theorem proved : Rows.ArenaTwiceSaid :=
  over
#print axioms proved
end Go.Proofs.Ytajkhkgakafgkaa.arenaTwice
