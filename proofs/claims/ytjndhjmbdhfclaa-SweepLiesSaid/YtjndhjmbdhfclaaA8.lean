/- The first call that the arena's statements make: it answers true. -/
import Derived.Test.YtjndhjmbdhfclaaA7
namespace Go.Proofs.Ytjndhjmbdhfclaa
set_option maxRecDepth 100000
open Go.RowKit
def al1 : Ar := ((Ar.new 3).make ⟨1, 0, 0, 0, 0, 5, 0⟩).1
def al2 : Ar := (al1.make ⟨2, 1, 1, 0, 0, 0, 0⟩).1
def al3 : Ar := (al2.drop 1).1
def al4 : Ar := (al3.drop 2).1
def al5 : Ar := (al4.work 9).1
set_option maxHeartbeats 1000000 in
theorem alive6 (w : World) : Calls Try.prog 12 #[] w fun e w' => e = .returned (.bool true) ∧ Below w.heap.size w w' := by
  have k1 : al1.Ok 4 := ok_make (ok_new (by decide) (by decide)) _
  have k2 : al2.Ok 8 := ok_make k1 _
  have k3 : al3.Ok 8 := ok_drop k2 _
  have k4 : al4.Ok 8 := ok_drop k3 _
  obtain ⟨K, hK⟩ : ∃ K : Nat → Prop, K = fun b => b < w.heap.size := ⟨_, rfl⟩
  have HK := Lib.hid hK
  clear hK
  go_enter Try.func12, Try.ntmps12
  go_wp2_with fail
  refine (new_yes 3 w (by decide) (by decide)).mono ?_
  rintro e w1 ⟨p, rfl, hb, ha⟩
  replace ha := ha K (fun _ h => by rw [HK.out] at h; exact h)
  have Hk := Lib.hid (Kept.of_below hb K)
  clear hb
  have H := Lib.hid (make_is (s' := al1) (h := 1) (e := 0) ⟨1, 0, 0, 0, 0, 5, 0⟩ rfl ha (ok_new (by decide) (by decide)) (by decide))
  clear ha
  go_wp2_with fail
  refine H.out.mono ?_
  clear H
  rintro e w2 ⟨rfl, ha, hk⟩
  replace Hk := Lib.hid (Hk.out.trans hk)
  clear hk
  have H := Lib.hid (make_is (s' := al2) (h := 2) (e := 0) ⟨2, 1, 1, 0, 0, 0, 0⟩ rfl ha k1 (by decide))
  clear ha
  go_wp2_with fail
  refine H.out.mono ?_
  clear H
  rintro e w3 ⟨rfl, ha, hk⟩
  replace Hk := Lib.hid (Hk.out.trans hk)
  clear hk
  have H := Lib.hid (count_is (c := 3) 1 rfl ha (k2.fit (by decide)))
  go_wp2_with fail
  refine H.out.mono ?_
  clear H
  rintro e w' ⟨rfl, rfl⟩
  have H := Lib.hid (drop_is (s' := al3) (e := 0) 1 rfl ha (k2.fit (by decide)))
  clear ha
  go_wp2_with fail
  refine H.out.mono ?_
  clear H
  rintro e w4 ⟨rfl, ha, hk⟩
  replace Hk := Lib.hid (Hk.out.trans hk)
  clear hk
  have H := Lib.hid (drop_is (s' := al4) (e := 0) 2 rfl ha (k3.fit (by decide)))
  clear ha
  go_wp2_with fail
  refine H.out.mono ?_
  clear H
  rintro e w5 ⟨rfl, ha, hk⟩
  replace Hk := Lib.hid (Hk.out.trans hk)
  clear hk
  have H := Lib.hid (pending_is (c := 1) rfl ha)
  go_wp2_with fail
  refine H.out.mono ?_
  clear H
  rintro e w' ⟨rfl, rfl⟩
  have H := Lib.hid (work_is (s' := al5) (n := 2) (m := 2) 9 rfl rfl ha k4 (by decide) (by decide))
  clear ha
  go_wp2_with fail
  refine H.out.mono ?_
  clear H
  rintro e w6 ⟨rfl, ha, hk⟩
  replace Hk := Lib.hid (Hk.out.trans hk)
  clear hk
  have H := Lib.hid (used_is (c := 0) rfl ha)
  go_wp2_with fail
  refine H.out.mono ?_
  clear H
  rintro e w' ⟨rfl, rfl⟩
  have H := Lib.hid (made_is (c := 2) rfl ha)
  go_wp2_with fail
  refine H.out.mono ?_
  clear H
  rintro e w' ⟨rfl, rfl⟩
  have H := Lib.hid (size_is (c := 3) rfl ha ((ok_work 9 k4).fit (by decide)))
  go_wp2_with fail
  refine H.out.mono ?_
  clear H
  rintro e w' ⟨rfl, rfl⟩
  go_wp2_with fail
  go_ret
  exact ⟨rfl, Hk.out.below fun b hb => by rw [HK.out]; exact hb⟩
end Go.Proofs.Ytjndhjmbdhfclaa
