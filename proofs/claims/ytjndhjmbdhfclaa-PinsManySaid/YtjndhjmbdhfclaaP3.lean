/- The first call that the statements of pins make: it answers true. -/
import Derived.Test.YtjndhjmbdhfclaaP2
namespace Go.Proofs.Ytjndhjmbdhfclaa
set_option maxRecDepth 100000
open Go.RowKit
theorem drop_nil (s : Ar) : s.drop 0 = (s, 9) := by
  unfold Ar.drop Ar.count
  rw [if_pos (by rw [if_pos (by omega)])]
set_option maxHeartbeats 1000000 in
theorem alive18 (w : World) : Calls Try.prog 22 #[] w fun e w' => e = .returned (.bool true) ∧ Below w.heap.size w w' := by
  obtain ⟨K, hK⟩ : ∃ K : Nat → Prop, K = fun b => b < w.heap.size := ⟨_, rfl⟩
  have HK := Lib.hid hK
  clear hK
  have ok : (Ar.new 5).Ok 0 := ok_new (by decide) (by decide)
  go_enter Try.func22, Try.ntmps22
  go_wp2_with fail
  refine (new_yes 5 w (by decide) (by decide)).mono ?_
  rintro e w1 ⟨p, rfl, hb, ha⟩
  replace ha := ha K (fun _ h => by rw [HK.out] at h; exact h)
  have Hk := Lib.hid (Kept.of_below hb K)
  clear hb
  have H := Lib.hid (cnew_is ha)
  clear ha
  go_wp2_with fail
  refine H.out.mono ?_
  clear H
  rintro e w2 ⟨q, rfl, ha, hb⟩
  replace Hk := Lib.hid (Hk.out.trans (Kept.of_below hb K))
  clear hb
  have H := Lib.hid (pnew_is ha)
  clear ha
  go_wp2_with fail
  refine H.out.mono ?_
  clear H
  rintro e w3 ⟨P, mb, rfl, ha, hb⟩
  replace Hk := Lib.hid (Hk.out.trans (Kept.of_below hb K))
  clear hb
  go_wp2_with fail
  refine (pnew_nil1 _ _).mono ?_
  rintro e w' ⟨rfl, rfl⟩
  go_wp2_with fail
  refine (pnew_nil2 _ _).mono ?_
  rintro e w' ⟨rfl, rfl⟩
  have H := Lib.hid (popen_is (s' := Ar.new 5) (e0 := 0) (by decide) (by decide) (by decide) (.inl ⟨rfl, rfl⟩) (ok.fit (by decide)) ha)
  clear ha
  go_wp2_with fail
  refine H.out.mono ?_
  clear H
  rintro e w4 ⟨rfl, ha, hk⟩
  replace Hk := Lib.hid (Hk.out.trans hk)
  clear hk
  have H := Lib.hid (pclose_is (k := 1) (s' := Ar.new 5) (e0 := 9) (WalkArith.wf_i64 (by decide)) (by decide) (drop_nil _) (ok.fit (by decide)) ha)
  clear ha
  go_wp2_with fail
  refine H.out.mono ?_
  clear H
  rintro e w5 ⟨rfl, ha, hk⟩
  replace Hk := Lib.hid (Hk.out.trans hk)
  clear hk
  have H := Lib.hid (pclose_no (k := 1) (WalkArith.wf_i64 (by decide)) (by decide) ha)
  clear ha
  go_wp2_with fail
  refine H.out.mono ?_
  clear H
  rintro e w6 ⟨rfl, ha, hk⟩
  replace Hk := Lib.hid (Hk.out.trans (Kept.of_below hk _))
  clear hk
  go_wp2_with fail
  go_ret
  exact ⟨rfl, Hk.out.below fun b hb => by rw [HK.out]; exact hb⟩
end Go.Proofs.Ytjndhjmbdhfclaa
