/- ArenaRefuses holds: what is none is refused, and changes nothing. No condition. -/
import Derived.Test.YtajkhkgakafgkaaA8
import Derived.Test.YtajkhkgakafgkaaLaw
namespace Go.Proofs.Ytajkhkgakafgkaa.arenaRefuses
open Go.ChangeShapes Go.WideShapes Go.ChangeAt Go.RowKit
set_option linter.unusedVariables false

def s1 : Ar := ((Ar.new 4).make ⟨1, 0, 0, 0, 0, 0, 0⟩).1
theorem s1c (k : Int) : s1.count k = if k = 1 then 1 else 0 := by
  unfold Ar.count
  by_cases h1 : k = 1
  · subst h1; rfl
  · rw [if_neg h1]
    by_cases h : k < 1 ∨ (s1.n : Int) < k
    · rw [if_pos h]
    · rw [if_neg h]
      have hn : s1.n = 4 := rfl
      have h2 : k = 2 ∨ k = 3 ∨ k = 4 := by omega
      rcases h2 with rfl | rfl | rfl <;> rfl
theorem s1ok : s1.Ok 4 := ok_make (ok_new (by decide) (by decide)) _
theorem s1keep (k : Int) (h : k ≠ 1) : s1.keep k = (s1, 9) := by
  unfold Ar.keep
  rw [if_pos (by rw [s1c, if_neg h])]
theorem mk_tag (tag k : Int) (h : tag < 1 ∨ 6 < tag) : s1.make ⟨tag, 0, k, 0, 0, 0, 0⟩ = (s1, 0, 1) := if_pos h
theorem mk_kid (tag k : Int) (h : ¬ (tag < 1 ∨ 6 < tag)) (h0 : k ≠ 0) (h1 : k ≠ 1) : s1.make ⟨tag, 0, k, 0, 0, 0, 0⟩ = (s1, 0, 9) := by
  unfold Ar.make
  rw [if_neg h, if_pos]
  rw [List.any_eq_true]
  exact ⟨k, by simp [Nd.kids], bad_iff.2 ⟨h0, by rw [s1c, if_neg h1]⟩⟩
theorem mk_ok (tag k : Int) (h : ¬ (tag < 1 ∨ 6 < tag)) (h0 : k = 0 ∨ k = 1) : s1.make ⟨tag, 0, k, 0, 0, 0, 0⟩ = (s1.put 2 ⟨tag, 0, k, 0, 0, 0, 0⟩, 2, 0) := by
  unfold Ar.make
  rw [if_neg h, if_neg]
  · rfl
  · rw [List.any_eq_true]
    rintro ⟨x, hx, hb⟩
    obtain ⟨b1, b2⟩ := bad_iff.1 hb
    rw [s1c] at b2
    have : x = k := by simp [Nd.kids] at hx; omega
    subst this
    rw [if_pos (by omega)] at b2
    exact absurd b2 (by decide)

set_option maxHeartbeats 1000000 in
theorem walk (tag : Int) (w0 : (Lit.int .i64 tag).wf = true) (kid : Int) (w1 : (Lit.int .i64 kid).wf = true) (w : World) :
    Calls Try.prog 5 #[.int .i64 tag, .int .i64 kid] w fun e w' => e = .returned (.bool true) ∧ Below w.heap.size w w' := by
  have HA := Lib.hid alive6
  obtain ⟨K, hK⟩ : ∃ K : Nat → Prop, K = fun b => b < w.heap.size := ⟨_, rfl⟩
  have HK := Lib.hid hK
  clear hK
  by_cases ht : tag < 1 ∨ 6 < tag
  · have Hm := Lib.hid (mk_tag tag kid ht)
    by_cases h1 : kid = 1
    · subst h1
      rcases ht with ht | ht
      · skip
        go_enter Try.func5, Try.ntmps5
        go_wp2_with fail
        refine (HA.out w).mono ?_
        rintro e w1 ⟨rfl, hb⟩
        have Hk := Lib.hid (Kept.of_below hb K)
        clear hb
        go_wp2_with fail
        refine (new_yes 4 _ (by decide) (by decide)).mono ?_
        rintro e w2 ⟨p, rfl, hb, ha⟩
        replace ha := ha K (fun b h => by rw [HK.out] at h; have := Hk.out.size; omega)
        replace Hk := Lib.hid (Hk.out.trans (Kept.of_below hb K))
        clear hb
        have H := Lib.hid (make_is (s' := s1) (h := 1) (e := 0) ⟨1, 0, 0, 0, 0, 0, 0⟩ rfl ha (ok_new (by decide) (by decide)) (by decide))
        clear ha
        go_wp2_with fail
        refine H.out.mono ?_
        clear H
        rintro e w3 ⟨rfl, ha, hk⟩
        replace Hk := Lib.hid (Hk.out.trans hk)
        clear hk
        have H := Lib.hid (make_is ⟨tag, 0, 1, 0, 0, 0, 0⟩ Hm.out ha s1ok (by decide))
        clear ha
        go_wp2_with fail
        refine H.out.mono ?_
        clear H
        rintro e w4 ⟨rfl, ha, hk⟩
        replace Hk := Lib.hid (Hk.out.trans hk)
        clear hk
        have H := Lib.hid (keep_is 1 rfl ha (s1ok.fit (by decide)))
        clear ha
        go_wp2_with fail
        refine H.out.mono ?_
        clear H
        rintro e w5 ⟨rfl, ha, hk⟩
        replace Hk := Lib.hid (Hk.out.trans hk)
        clear hk
        have H := Lib.hid (used_is (c := 1) rfl ha)
        go_wp2_with fail
        refine H.out.mono ?_
        clear H
        rintro e w' ⟨rfl, rfl⟩
        have H := Lib.hid (made_is (c := 1) rfl ha)
        go_wp2_with fail
        refine H.out.mono ?_
        clear H
        rintro e w' ⟨rfl, rfl⟩
        go_wp2_with fail
        go_ret
        exact ⟨rfl, Hk.out.below fun b hb => by rw [HK.out]; exact hb⟩
      · have ht' : ¬ tag < 1 := by omega
        go_enter Try.func5, Try.ntmps5
        go_wp2_with fail
        refine (HA.out w).mono ?_
        rintro e w1 ⟨rfl, hb⟩
        have Hk := Lib.hid (Kept.of_below hb K)
        clear hb
        go_wp2_with fail
        refine (new_yes 4 _ (by decide) (by decide)).mono ?_
        rintro e w2 ⟨p, rfl, hb, ha⟩
        replace ha := ha K (fun b h => by rw [HK.out] at h; have := Hk.out.size; omega)
        replace Hk := Lib.hid (Hk.out.trans (Kept.of_below hb K))
        clear hb
        have H := Lib.hid (make_is (s' := s1) (h := 1) (e := 0) ⟨1, 0, 0, 0, 0, 0, 0⟩ rfl ha (ok_new (by decide) (by decide)) (by decide))
        clear ha
        go_wp2_with fail
        refine H.out.mono ?_
        clear H
        rintro e w3 ⟨rfl, ha, hk⟩
        replace Hk := Lib.hid (Hk.out.trans hk)
        clear hk
        have H := Lib.hid (make_is ⟨tag, 0, 1, 0, 0, 0, 0⟩ Hm.out ha s1ok (by decide))
        clear ha
        go_wp2_with fail
        refine H.out.mono ?_
        clear H
        rintro e w4 ⟨rfl, ha, hk⟩
        replace Hk := Lib.hid (Hk.out.trans hk)
        clear hk
        have H := Lib.hid (keep_is 1 rfl ha (s1ok.fit (by decide)))
        clear ha
        go_wp2_with fail
        refine H.out.mono ?_
        clear H
        rintro e w5 ⟨rfl, ha, hk⟩
        replace Hk := Lib.hid (Hk.out.trans hk)
        clear hk
        have H := Lib.hid (used_is (c := 1) rfl ha)
        go_wp2_with fail
        refine H.out.mono ?_
        clear H
        rintro e w' ⟨rfl, rfl⟩
        have H := Lib.hid (made_is (c := 1) rfl ha)
        go_wp2_with fail
        refine H.out.mono ?_
        clear H
        rintro e w' ⟨rfl, rfl⟩
        go_wp2_with fail
        go_ret
        exact ⟨rfl, Hk.out.below fun b hb => by rw [HK.out]; exact hb⟩
    · have h1' : (kid == 1) = false := by simpa using h1
      have Hn := Lib.hid (s1keep kid h1)
      rcases ht with ht | ht
      · skip
        go_enter Try.func5, Try.ntmps5
        go_wp2_with fail
        refine (HA.out w).mono ?_
        rintro e w1 ⟨rfl, hb⟩
        have Hk := Lib.hid (Kept.of_below hb K)
        clear hb
        go_wp2_with fail
        refine (new_yes 4 _ (by decide) (by decide)).mono ?_
        rintro e w2 ⟨p, rfl, hb, ha⟩
        replace ha := ha K (fun b h => by rw [HK.out] at h; have := Hk.out.size; omega)
        replace Hk := Lib.hid (Hk.out.trans (Kept.of_below hb K))
        clear hb
        have H := Lib.hid (make_is (s' := s1) (h := 1) (e := 0) ⟨1, 0, 0, 0, 0, 0, 0⟩ rfl ha (ok_new (by decide) (by decide)) (by decide))
        clear ha
        go_wp2_with fail
        refine H.out.mono ?_
        clear H
        rintro e w3 ⟨rfl, ha, hk⟩
        replace Hk := Lib.hid (Hk.out.trans hk)
        clear hk
        have H := Lib.hid (make_is ⟨tag, 0, kid, 0, 0, 0, 0⟩ Hm.out ha s1ok (by decide))
        clear ha
        go_wp2_with fail
        refine H.out.mono ?_
        clear H
        rintro e w4 ⟨rfl, ha, hk⟩
        replace Hk := Lib.hid (Hk.out.trans hk)
        clear hk
        have H := Lib.hid (keep_is kid Hn.out ha (s1ok.fit (by decide)))
        clear ha
        go_wp2_with fail
        refine H.out.mono ?_
        clear H
        rintro e w5 ⟨rfl, ha, hk⟩
        replace Hk := Lib.hid (Hk.out.trans hk)
        clear hk
        have H := Lib.hid (used_is (c := 1) rfl ha)
        go_wp2_with fail
        refine H.out.mono ?_
        clear H
        rintro e w' ⟨rfl, rfl⟩
        have H := Lib.hid (made_is (c := 1) rfl ha)
        go_wp2_with fail
        refine H.out.mono ?_
        clear H
        rintro e w' ⟨rfl, rfl⟩
        go_wp2_with fail
        go_ret
        exact ⟨rfl, Hk.out.below fun b hb => by rw [HK.out]; exact hb⟩
      · have ht' : ¬ tag < 1 := by omega
        go_enter Try.func5, Try.ntmps5
        go_wp2_with fail
        refine (HA.out w).mono ?_
        rintro e w1 ⟨rfl, hb⟩
        have Hk := Lib.hid (Kept.of_below hb K)
        clear hb
        go_wp2_with fail
        refine (new_yes 4 _ (by decide) (by decide)).mono ?_
        rintro e w2 ⟨p, rfl, hb, ha⟩
        replace ha := ha K (fun b h => by rw [HK.out] at h; have := Hk.out.size; omega)
        replace Hk := Lib.hid (Hk.out.trans (Kept.of_below hb K))
        clear hb
        have H := Lib.hid (make_is (s' := s1) (h := 1) (e := 0) ⟨1, 0, 0, 0, 0, 0, 0⟩ rfl ha (ok_new (by decide) (by decide)) (by decide))
        clear ha
        go_wp2_with fail
        refine H.out.mono ?_
        clear H
        rintro e w3 ⟨rfl, ha, hk⟩
        replace Hk := Lib.hid (Hk.out.trans hk)
        clear hk
        have H := Lib.hid (make_is ⟨tag, 0, kid, 0, 0, 0, 0⟩ Hm.out ha s1ok (by decide))
        clear ha
        go_wp2_with fail
        refine H.out.mono ?_
        clear H
        rintro e w4 ⟨rfl, ha, hk⟩
        replace Hk := Lib.hid (Hk.out.trans hk)
        clear hk
        have H := Lib.hid (keep_is kid Hn.out ha (s1ok.fit (by decide)))
        clear ha
        go_wp2_with fail
        refine H.out.mono ?_
        clear H
        rintro e w5 ⟨rfl, ha, hk⟩
        replace Hk := Lib.hid (Hk.out.trans hk)
        clear hk
        have H := Lib.hid (used_is (c := 1) rfl ha)
        go_wp2_with fail
        refine H.out.mono ?_
        clear H
        rintro e w' ⟨rfl, rfl⟩
        have H := Lib.hid (made_is (c := 1) rfl ha)
        go_wp2_with fail
        refine H.out.mono ?_
        clear H
        rintro e w' ⟨rfl, rfl⟩
        go_wp2_with fail
        go_ret
        exact ⟨rfl, Hk.out.below fun b hb => by rw [HK.out]; exact hb⟩
  · obtain ⟨t1, t2⟩ : 1 ≤ tag ∧ tag ≤ 6 := by omega
    by_cases h0 : kid = 0
    · subst h0
      have Hm := Lib.hid (mk_ok tag 0 ht (.inl rfl))
      have Ho : (s1.put 2 ⟨tag, 0, 0, 0, 0, 0, 0⟩).Ok 8 := by have := ok_make s1ok ⟨tag, 0, 0, 0, 0, 0, 0⟩; rw [Hm.out] at this; exact this
      clear ht
      go_enter Try.func5, Try.ntmps5
      go_wp2_with fail
      refine (HA.out w).mono ?_
      rintro e w1 ⟨rfl, hb⟩
      have Hk := Lib.hid (Kept.of_below hb K)
      clear hb
      go_wp2_with fail
      refine (new_yes 4 _ (by decide) (by decide)).mono ?_
      rintro e w2 ⟨p, rfl, hb, ha⟩
      replace ha := ha K (fun b h => by rw [HK.out] at h; have := Hk.out.size; omega)
      replace Hk := Lib.hid (Hk.out.trans (Kept.of_below hb K))
      clear hb
      have H := Lib.hid (make_is (s' := s1) (h := 1) (e := 0) ⟨1, 0, 0, 0, 0, 0, 0⟩ rfl ha (ok_new (by decide) (by decide)) (by decide))
      clear ha
      go_wp2_with fail
      refine H.out.mono ?_
      clear H
      rintro e w3 ⟨rfl, ha, hk⟩
      replace Hk := Lib.hid (Hk.out.trans hk)
      clear hk
      have H := Lib.hid (make_is ⟨tag, 0, 0, 0, 0, 0, 0⟩ Hm.out ha s1ok (by decide))
      clear ha
      go_wp2_with fail
      refine H.out.mono ?_
      clear H
      rintro e w4 ⟨rfl, ha, hk⟩
      replace Hk := Lib.hid (Hk.out.trans hk)
      clear hk
      have H := Lib.hid (keep_is (s' := s1.put 2 ⟨tag, 0, 0, 0, 0, 0, 0⟩) (e := 9) 0 rfl ha (Ho.fit (by decide)))
      clear ha
      go_wp2_with fail
      refine H.out.mono ?_
      clear H
      rintro e w5 ⟨rfl, ha, hk⟩
      replace Hk := Lib.hid (Hk.out.trans hk)
      clear hk
      go_wp2_with fail
      go_ret
      exact ⟨rfl, Hk.out.below fun b hb => by rw [HK.out]; exact hb⟩
    · by_cases h1 : kid = 1
      · subst h1
        have Hm := Lib.hid (mk_ok tag 1 ht (.inr rfl))
        have Ho : (s1.put 2 ⟨tag, 0, 1, 0, 0, 0, 0⟩).Ok 8 := by have := ok_make s1ok ⟨tag, 0, 1, 0, 0, 0, 0⟩; rw [Hm.out] at this; exact this
        clear ht h0
        go_enter Try.func5, Try.ntmps5
        go_wp2_with fail
        refine (HA.out w).mono ?_
        rintro e w1 ⟨rfl, hb⟩
        have Hk := Lib.hid (Kept.of_below hb K)
        clear hb
        go_wp2_with fail
        refine (new_yes 4 _ (by decide) (by decide)).mono ?_
        rintro e w2 ⟨p, rfl, hb, ha⟩
        replace ha := ha K (fun b h => by rw [HK.out] at h; have := Hk.out.size; omega)
        replace Hk := Lib.hid (Hk.out.trans (Kept.of_below hb K))
        clear hb
        have H := Lib.hid (make_is (s' := s1) (h := 1) (e := 0) ⟨1, 0, 0, 0, 0, 0, 0⟩ rfl ha (ok_new (by decide) (by decide)) (by decide))
        clear ha
        go_wp2_with fail
        refine H.out.mono ?_
        clear H
        rintro e w3 ⟨rfl, ha, hk⟩
        replace Hk := Lib.hid (Hk.out.trans hk)
        clear hk
        have H := Lib.hid (make_is ⟨tag, 0, 1, 0, 0, 0, 0⟩ Hm.out ha s1ok (by decide))
        clear ha
        go_wp2_with fail
        refine H.out.mono ?_
        clear H
        rintro e w4 ⟨rfl, ha, hk⟩
        replace Hk := Lib.hid (Hk.out.trans hk)
        clear hk
        have H := Lib.hid (keep_is (e := 0) 1 rfl ha (Ho.fit (by decide)))
        clear ha
        go_wp2_with fail
        refine H.out.mono ?_
        clear H
        rintro e w5 ⟨rfl, ha, hk⟩
        replace Hk := Lib.hid (Hk.out.trans hk)
        clear hk
        go_wp2_with fail
        go_ret
        exact ⟨rfl, Hk.out.below fun b hb => by rw [HK.out]; exact hb⟩
      · have Hm := Lib.hid (mk_kid tag kid ht h0 h1)
        have g0 : (kid == 0) = false := by simpa using h0
        have g1 : (kid == 1) = false := by simpa using h1
        have g0' : (kid != 0) = true := by simpa using h0
        have g1' : (kid != 1) = true := by simpa using h1
        have Hn := Lib.hid (s1keep kid h1)
        clear ht
        go_enter Try.func5, Try.ntmps5
        go_wp2_with fail
        refine (HA.out w).mono ?_
        rintro e w1 ⟨rfl, hb⟩
        have Hk := Lib.hid (Kept.of_below hb K)
        clear hb
        go_wp2_with fail
        refine (new_yes 4 _ (by decide) (by decide)).mono ?_
        rintro e w2 ⟨p, rfl, hb, ha⟩
        replace ha := ha K (fun b h => by rw [HK.out] at h; have := Hk.out.size; omega)
        replace Hk := Lib.hid (Hk.out.trans (Kept.of_below hb K))
        clear hb
        have H := Lib.hid (make_is (s' := s1) (h := 1) (e := 0) ⟨1, 0, 0, 0, 0, 0, 0⟩ rfl ha (ok_new (by decide) (by decide)) (by decide))
        clear ha
        go_wp2_with fail
        refine H.out.mono ?_
        clear H
        rintro e w3 ⟨rfl, ha, hk⟩
        replace Hk := Lib.hid (Hk.out.trans hk)
        clear hk
        have H := Lib.hid (make_is ⟨tag, 0, kid, 0, 0, 0, 0⟩ Hm.out ha s1ok (by decide))
        clear ha
        go_wp2_with fail
        refine H.out.mono ?_
        clear H
        rintro e w4 ⟨rfl, ha, hk⟩
        replace Hk := Lib.hid (Hk.out.trans hk)
        clear hk
        have H := Lib.hid (keep_is kid Hn.out ha (s1ok.fit (by decide)))
        clear ha
        go_wp2_with fail
        refine H.out.mono ?_
        clear H
        rintro e w5 ⟨rfl, ha, hk⟩
        replace Hk := Lib.hid (Hk.out.trans hk)
        clear hk
        have H := Lib.hid (used_is (c := 1) rfl ha)
        go_wp2_with fail
        refine H.out.mono ?_
        clear H
        rintro e w' ⟨rfl, rfl⟩
        have H := Lib.hid (made_is (c := 1) rfl ha)
        go_wp2_with fail
        refine H.out.mono ?_
        clear H
        rintro e w' ⟨rfl, rfl⟩
        go_wp2_with fail
        go_ret
        exact ⟨rfl, Hk.out.below fun b hb => by rw [HK.out]; exact hb⟩

set_option maxRecDepth 100000 in
theorem lifted (os : Os) (started : os.Started) (H : Type) (enc : TypeId × Value → H) :
    ReturnsInHanded {} Try.checked os 5 .any (Rows.arenaRefusesSpec.pre6 enc Try.prog Try.f5 Rows.arenaRefusesRow.domain false) (Rows.arenaRefusesSpec.post enc Try.prog Try.f5 false true false false) := by
  refine returnsInHanded_of_change (C := Try.checked) own_ started (by kernel_rfl) Try.func5
    (ChangeSpec.witness6 (enc := enc) (C := Try.checked) false ⟨#[], #[.int .i64 0, .int .i64 0], []⟩ 8 (by kernel_rfl) (by kernel_rfl) (by kernel_rfl) (by kernel_rfl)) ?_
  intro W base args ds gs before hval0 hW _ _
  have hval : ∀ (j : Nat) t v, Try.f5.params[j]? = some t → args[j]? = some v → Value.okWide Try.prog W .any base t v := hval0
  have hW' := hW
  obtain ⟨p, q, hA0, hV, rfl, hfz, hnd⟩ := hW
  have hA : DataW.TrodAll enc Try.prog W 0 (fun _ => true) true Try.f5.params.toList args.toList ds p := hA0
  rw [Try.params5] at hA hval
  obtain ⟨v0, vs0, d0, ds0, p0, q0, hargs, rfl, rfl, h0, r0⟩ := trodAll_cons hA
  obtain ⟨v1, vs1, d1, ds1, p1, q1, rfl, rfl, rfl, h1, r1⟩ := trodAll_cons r0
  obtain ⟨rfl, rfl, rfl⟩ := trodAll_nil r1
  obtain rfl : args = #[v0, v1] := by cases args; simp_all
  obtain ⟨a0, rfl, rfl, rfl, w0⟩ := open_int Try.underlying3 (hval 0 3 v0 rfl rfl) h0
  obtain ⟨a1, rfl, rfl, rfl, w1⟩ := open_int Try.underlying3 (hval 1 3 v1 rfl rfl) h1
  clear hA0 hval0
  refine (walk a0 w0 a1 w1 W).mono fun e W' ⟨he, hg⟩ => ?_
  subst he
  exact ⟨_, rfl, law_post laid_ (by kernel_rfl) rfl hW' hg rfl Try.underlying4 ⟨rfl, rfl, rfl⟩⟩

theorem over : Rows.arenaRefusesRow.holds Try.pinned (OpenSpec.ofChange Rows.arenaRefusesSpec) :=
  OpenClaim.holds_of_wide 5 Try.f5 rfl rfl rfl rfl rfl rfl rfl ⟨rfl, rfl, rfl, rfl, rfl⟩ rfl rfl rfl rfl rfl (by kernel_rfl) Try.func5 (by kernel_rfl)
    (of_decide_eq_true (by kernel_rfl)) (by unfold Func.isWrapper; first | (rw [if_pos (by decide +kernel)]; kernel_rfl) | (rw [if_neg (by decide +kernel)]; exact ⟨rfl, rfl⟩))
    (fun os started H enc _ => lifted os started H enc)

theorem proved : Rows.ArenaRefusesSaid :=
  over
#print axioms proved
end Go.Proofs.Ytajkhkgakafgkaa.arenaRefuses
