/- The first call that the cell's statements make: it answers true. -/
import Derived.Test.YtajkhkgakafgkaaC1
namespace Go.Proofs.Ytajkhkgakafgkaa
open Go.RowKit
def ce1 : Ar := ((Ar.new 5).make ⟨6, 0, 0, 0, 0, 0, 0⟩).1
theorem ce1_ok : ce1.Ok 4 := ok_make (ok_new (by decide) (by decide)) _
set_option maxHeartbeats 1000000 in
theorem alive17 (w : World) : Calls Try.prog 26 #[] w fun e w' => e = .returned (.bool true) ∧ Below w.heap.size w w' := by
  obtain ⟨K, hK⟩ : ∃ K : Nat → Prop, K = fun b => b < w.heap.size := ⟨_, rfl⟩
  have HK := Lib.hid hK
  clear hK
  go_enter Try.func26, Try.ntmps26
  go_wp2_with fail
  refine (new_yes 5 w (by decide) (by decide)).mono ?_
  rintro e w1 ⟨p, rfl, hb, ha⟩
  replace ha := ha K (fun _ h => by rw [HK.out] at h; exact h)
  have Hk := Lib.hid (Kept.of_below hb K)
  clear hb
  have H := Lib.hid (cnew_is ha)
  clear ha
  go_wp2_with fail
  refine H.out.mono ?_
  clear H
  rintro e w2 ⟨q, rfl, ha, hb⟩
  replace Hk := Lib.hid (Hk.out.trans (Kept.of_below hb K))
  clear hb
  go_wp2_with fail
  refine (cnew_nil _).mono ?_
  rintro e w2 ⟨rfl, rfl⟩
  have H := Lib.hid (cmake_is (s' := ce1) (h := 1) (e := 0) ⟨6, 0, 0, 0, 0, 0, 0⟩ rfl ha (ok_new (by decide) (by decide)) (by decide))
  clear ha
  go_wp2_with fail
  refine H.out.mono ?_
  clear H
  rintro e w3 ⟨rfl, ha, hk⟩
  replace Hk := Lib.hid (Hk.out.trans hk)
  clear hk
  have H := Lib.hid (read_zero ha)
  clear ha
  go_wp2_with fail
  refine H.out.mono ?_
  clear H
  rintro e w4 ⟨rfl, ha, hk⟩
  replace Hk := Lib.hid (Hk.out.trans (Kept.of_below hk _))
  clear hk
  have H := Lib.hid (publish_now (s' := ce1) (e := 9) (root := 1) rfl (ce1_ok.fit (by decide)) (by decide) ha)
  clear ha
  go_wp2_with fail
  refine H.out.mono ?_
  clear H
  rintro e w5 ⟨rfl, ha, hk⟩
  replace Hk := Lib.hid (Hk.out.trans hk)
  clear hk
  have H := Lib.hid (publish_late (from_ := 0) (root := 0) (by decide) (by decide) ha)
  clear ha
  go_wp2_with fail
  refine H.out.mono ?_
  clear H
  rintro e w6 ⟨rfl, ha, hk⟩
  replace Hk := Lib.hid (Hk.out.trans hk)
  clear hk
  have H := Lib.hid (number_is ha)
  clear ha
  go_wp2_with fail
  refine H.out.mono ?_
  clear H
  rintro e w7 ⟨rfl, ha, hk⟩
  replace Hk := Lib.hid (Hk.out.trans (Kept.of_below hk _))
  clear hk
  have H := Lib.hid (fails_is ha)
  go_wp2_with fail
  refine H.out.mono ?_
  clear H
  rintro e w' ⟨rfl, rfl⟩
  go_wp2_with fail
  go_ret
  exact ⟨rfl, Hk.out.below fun b hb => by rw [HK.out]; exact hb⟩
end Go.Proofs.Ytajkhkgakafgkaa
