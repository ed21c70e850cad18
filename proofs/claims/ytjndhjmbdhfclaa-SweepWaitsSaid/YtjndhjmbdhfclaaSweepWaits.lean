/- SweepWaits holds: what waits is freed so many at a time. No condition. -/
import Derived.Test.YtjndhjmbdhfclaaSw10
import Derived.Test.YtjndhjmbdhfclaaLaw
namespace Go.Proofs.Ytjndhjmbdhfclaa.sweepWaits
set_option maxRecDepth 100000
open Go.ChangeShapes Go.WideShapes Go.ChangeAt Go.RowKit
set_option linter.unusedVariables false
set_option maxRecDepth 100000 in
set_option maxHeartbeats 8000000 in
theorem walk (n : Int) (w0 : (Lit.int .i64 n).wf = true) (mo : Int) (w1' : (Lit.int .i64 mo).wf = true) (w : World) :
    Calls Try.prog 11 #[.int .i64 n, .int .i64 mo] w fun e w' => e = .returned (.bool true) ∧ Below w.heap.size w w' := by
  have HA := Lib.hid alive19
  by_cases h1 : n < 1
  · skip
    go_enter Try.func11, Try.ntmps11
    go_wp2_with fail
    refine (HA.out w).mono ?_
    rintro e w1 ⟨rfl, hb⟩
    go_wp2_with fail
    go_ret
    exact ⟨rfl, hb⟩
  by_cases h2 : 25 < n
  · skip
    go_enter Try.func11, Try.ntmps11
    go_wp2_with fail
    refine (HA.out w).mono ?_
    rintro e w1 ⟨rfl, hb⟩
    go_wp2_with fail
    go_ret
    exact ⟨rfl, hb⟩
  by_cases h3 : mo < 1
  · skip
    go_enter Try.func11, Try.ntmps11
    go_wp2_with fail
    refine (HA.out w).mono ?_
    rintro e w1 ⟨rfl, hb⟩
    go_wp2_with fail
    go_ret
    exact ⟨rfl, hb⟩
  by_cases h4 : 30 < mo
  · skip
    go_enter Try.func11, Try.ntmps11
    go_wp2_with fail
    refine (HA.out w).mono ?_
    rintro e w1 ⟨rfl, hb⟩
    go_wp2_with fail
    go_ret
    exact ⟨rfl, hb⟩
  obtain ⟨N, rfl⟩ := Int.eq_ofNat_of_zero_le (show 0 ≤ n by omega)
  obtain ⟨M, rfl⟩ := Int.eq_ofNat_of_zero_le (show 0 ≤ mo by omega)
  have H14 := Lib.hid (show N ≤ 25 ∧ M ≤ 30 ∧ 1 ≤ M ∧ 1 ≤ N by omega)
  obtain ⟨K, hK⟩ : ∃ K : Nat → Prop, K = fun b => b < w.heap.size := ⟨_, rfl⟩
  have HK := Lib.hid hK
  clear hK
  go_enter Try.func11, Try.ntmps11
  go_wp2_with fail
  refine (HA.out w).mono ?_
  rintro e w1 ⟨rfl, hb⟩
  have Hk := Lib.hid (Kept.of_below hb K)
  have Hn := Lib.hid (show N ≤ 25 ∧ M ≤ 30 ∧ 1 ≤ M by omega)
  clear hb
  go_wp2_with fail
  refine (new_yes 30 _ (by decide) (by decide)).mono ?_
  rintro e w2 ⟨p, rfl, hb, ha⟩
  replace ha := ha K (fun b h => by rw [HK.out] at h; have := Hk.out.size; omega)
  replace Hk := Lib.hid (Hk.out.trans (Kept.of_below hb K))
  clear hb
  go_wp2_with fail
  have Ha := Lib.hid ha
  clear ha
  go_loopw [6] (fun k W => ∃ j : Nat, k = .int .i64 (j : Int) ∧ j ≤ N ∧ ∃ s, Wv s j (4 * j) ∧ (∀ i, 1 ≤ i → i ≤ 30 → s.u i = decide (i ≤ j)) ∧ Ars W K p s ∧ Kept K w W) (fun k _ => N - (intOf k).toNat)
  case atStart => exact ⟨0, rfl, by omega, _, wv_new, fun i i1 i2 => by show false = _; simp; omega, Ha.out, Hk.out⟩
  case round =>
    obtain ⟨j, rfl, j1, s, wv, hu, ha, hk⟩ := hrel
    clear Ha Hk
    have Hk := Lib.hid hk
    clear hk
    by_cases hj : j < N
    · obtain ⟨t, t', hm, hd, okt, wv', hu'⟩ := wv.step hu (by have := Hn.out; omega)
      have Hm := Lib.hid hm
      have Hd := Lib.hid hd
      have Okt := Lib.hid okt
      have Wv' := Lib.hid wv'
      have Hu' := Lib.hid hu'
      have Wvs := Lib.hid wv
      have hNN := Hn.out
      clear hm hd okt wv' hu' wv hu
      have H := Lib.hid (make_is ⟨1, 0, 0, 0, 0, 0, 0⟩ Hm.out ha Wvs.out.ok (by omega))
      clear ha
      go_wp2_with fail
      refine H.out.mono ?_
      clear H
      rintro e w3 ⟨rfl, ha, hk⟩
      replace Hk := Lib.hid (Hk.out.trans hk)
      clear hk
      have H := Lib.hid (drop_is ((j : Int) + 1) Hd.out ha (Okt.out.fit (by omega)))
      clear ha
      go_wp2_with fail
      refine H.out.mono ?_
      clear H
      rintro e w4 ⟨rfl, ha, hk⟩
      replace Hk := Lib.hid (Hk.out.trans hk)
      clear hk
      have Ha := Lib.hid ha
      clear ha
      go_wp2_with fail
      go_roundw
      case rel => exact ⟨j + 1, by go_num, by omega, _, by have := Wv'.out; rwa [show (4 * (j : Int) + 4) = 4 * ((j + 1 : Nat) : Int) by omega] at this, Hu'.out, Ha.out, Hk.out⟩
      case measure => simp [intOf]; omega
    · obtain rfl : N = j := by omega
      have Wvs := Lib.hid wv
      have Ha := Lib.hid ha
      clear wv hu ha
      go_wp2_with fail
      go_loopw [9] (fun l W => ∃ k : Nat, l = .int .i64 (k : Int) ∧ k ≤ N ∧ ∃ s, Wv s k (4 * N) ∧ Ars W K p s ∧ Kept K w W) (fun l _ => (intOf l).toNat)
      case atStart => exact ⟨N, rfl, Nat.le_refl _, s, Wvs.out, Ha.out, Hk.out⟩
      case round =>
        obtain ⟨k, rfl, k1, s, wv, ha, hk⟩ := hrel
        clear Ha Hk Wvs
        have Hk := Lib.hid hk
        have Wvs := Lib.hid wv
        have Ha := Lib.hid ha
        clear hk wv ha
        by_cases h0 : 0 < k
        · by_cases hle : M ≤ k
          · skip
            obtain ⟨s', hwk, wv'⟩ := Wv.work Wvs.out M
            rw [Nat.min_eq_left hle] at hwk wv'
            have WV' := Lib.hid wv'
            have HWK := Lib.hid hwk
            clear wv' hwk
            have ok' := WV'.out.ok
            have acc' := WV'.out.acc
            have HAU := fun W (h : Ars W K p s') => Lib.hid (audit_w (v := .slice none 0 0) (b := true) (held := []) WV'.out.audit h ok' (by omega) acc' (.inl ⟨rfl, rfl⟩) (by simp) (fun x hx => by cases hx))
            have HAU := Lib.hid HAU
            have Hwl := Lib.hid (show ((s.wt.length : Nat) : Int) = (k : Int) by rw [Wvs.out.wl])
            have H1 := Lib.hid (pending_is Hwl.out Ha.out)
            have hMM := Hn.out
            clear ok' acc'
            go_wp2_with fail
            refine H1.out.mono ?_
            clear H1
            rintro e w5 ⟨rfl, rfl⟩
            have H := Lib.hid (clean_is (s' := s') (n := M) (m := (M : Int)) (M : Int) HWK.out rfl Ha.out Wvs.out.ok (by omega) (by omega))
            go_wp2_with fail
            refine H.out.mono ?_
            clear H
            rintro e w6 ⟨rfl, ha, hk⟩
            replace Hk := Lib.hid (Hk.out.trans hk)
            have H := Lib.hid (HAU.out _ ha).out
            have ha6 := Lib.hid ha
            have Hle := Lib.hid hle
            have hle2 : (M : Int) ≤ (k : Int) := by have := Hle.out; omega
            have Hk2 := Lib.hid (show (k : Int) ≤ 25 ∧ (1 : Int) ≤ (M : Int) ∧ (0 : Int) < (k : Int) by omega)
            have hmn : min (M : Int) (k : Int) = (M : Int) := by have := Hle.out; omega
            have hif : (if (k : Int) < (M : Int) then (k : Int) else (M : Int)) = (M : Int) := by have := Hle.out; split <;> omega
            have K1' := Lib.hid k1
            clear hk Ha HAU ha hMM hle k1 h0 h1 h2 h3 h4 hle2 hj j1
            go_wp2_with fail
            refine H.out.mono ?_
            clear H
            rintro e w7 ⟨rfl, hb⟩
            have hk7 := Lib.hid (Hk.out.trans (Kept.of_below hb K))
            have ha7 := Lib.hid (ha6.out.below hb)
            clear hb Hk ha6
            go_wp2_with fail
            go_roundw
            case rel => exact ⟨k - M, congrArg (Value.int .i64) (by have := Hle.out; have := Hk2.out; have e : wrap64 ((k : Int) - (M : Int)) = (k : Int) - (M : Int) := IntWalk.wrap64_in _ (by omega); omega), by have := K1'.out; omega, s', WV'.out, ha7.out, hk7.out⟩
            case measure => have := Hk2.out; have := Hle.out; have e : wrap64 ((k : Int) - (M : Int)) = (k : Int) - (M : Int) := IntWalk.wrap64_in _ (by omega); simp [intOf, e]; omega
          · skip
            obtain ⟨s', hwk, wv'⟩ := Wv.work Wvs.out M
            rw [Nat.min_eq_right (show k ≤ M by omega)] at hwk wv'
            have WV' := Lib.hid wv'
            have HWK := Lib.hid hwk
            clear wv' hwk
            have ok' := WV'.out.ok
            have acc' := WV'.out.acc
            have HAU := fun W (h : Ars W K p s') => Lib.hid (audit_w (v := .slice none 0 0) (b := true) (held := []) WV'.out.audit h ok' (by omega) acc' (.inl ⟨rfl, rfl⟩) (by simp) (fun x hx => by cases hx))
            have HAU := Lib.hid HAU
            have Hwl := Lib.hid (show ((s.wt.length : Nat) : Int) = (k : Int) by rw [Wvs.out.wl])
            have H1 := Lib.hid (pending_is Hwl.out Ha.out)
            have hMM := Hn.out
            clear ok' acc'
            go_wp2_with fail
            refine H1.out.mono ?_
            clear H1
            rintro e w5 ⟨rfl, rfl⟩
            have H := Lib.hid (clean_is (s' := s') (n := k) (m := (k : Int)) (M : Int) HWK.out rfl Ha.out Wvs.out.ok (by omega) (by omega))
            go_wp2_with fail
            refine H.out.mono ?_
            clear H
            rintro e w6 ⟨rfl, ha, hk⟩
            replace Hk := Lib.hid (Hk.out.trans hk)
            have H := Lib.hid (HAU.out _ ha).out
            have ha6 := Lib.hid ha
            have Hle := Lib.hid hle
            have hle2 : (k : Int) < (M : Int) := by have := Hle.out; omega
            have Hk2 := Lib.hid (show (k : Int) ≤ 25 ∧ (1 : Int) ≤ (M : Int) ∧ (0 : Int) < (k : Int) by omega)
            have hmn : min (M : Int) (k : Int) = (k : Int) := by have := Hle.out; omega
            have hif : (if (k : Int) < (M : Int) then (k : Int) else (M : Int)) = (k : Int) := by have := Hle.out; split <;> omega
            have K1' := Lib.hid k1
            clear hk Ha HAU ha hMM hle k1 h0 h1 h2 h3 h4 hle2 hj j1
            go_wp2_with fail
            refine H.out.mono ?_
            clear H
            rintro e w7 ⟨rfl, hb⟩
            have hk7 := Lib.hid (Hk.out.trans (Kept.of_below hb K))
            have ha7 := Lib.hid (ha6.out.below hb)
            clear hb Hk ha6
            go_wp2_with fail
            go_roundw
            case rel => exact ⟨k - k, congrArg (Value.int .i64) (by omega), by omega, s', WV'.out, ha7.out, hk7.out⟩
            case measure => have := Hk2.out; have := Hle.out; simp [intOf]; omega
        · obtain rfl : k = 0 := by omega
          obtain ⟨s', hwk, wv'⟩ := Wv.work Wvs.out M
          rw [Nat.min_eq_right (Nat.zero_le _)] at hwk wv'
          have Wv' := Lib.hid wv'
          have HWK := Lib.hid hwk
          have hw0 : s'.wt = [] := List.length_eq_zero_iff.1 wv'.wl
          have Hbz := Lib.hid (led_busy wv'.led wv'.ok wv'.acc (fun _ _ => rfl) hw0)
          have H := Lib.hid (clean_is (s' := s') (n := 0) (m := 0) (M : Int) HWK.out rfl Ha.out Wvs.out.ok (by have := H14.out; omega) (by have := H14.out; omega))
          have HNN := Lib.hid (show (4 * (N : Int)) ≤ 1000000000000 by have := H14.out; omega)
          clear wv' hwk hw0 h1 h2 h3 h4 hj j1 h0 k1
          go_wp2_with fail
          refine H.out.mono ?_
          clear H
          rintro e w5 ⟨rfl, ha, hk⟩
          replace Hk := Lib.hid (Hk.out.trans hk)
          have H := Lib.hid (used_is Hbz.out ha)
          have Ha5 := Lib.hid ha
          clear hk Ha ha
          go_wp2_with fail
          refine H.out.mono ?_
          clear H
          rintro e w' ⟨rfl, rfl⟩
          have H := Lib.hid (live_is Ha5.out (Wv'.out.ok.fit (by have := HNN.out; omega)))
          go_wp2_with fail
          refine H.out.mono ?_
          clear H
          rintro e w6 ⟨v6, K6, rfl, hl, _, hb⟩
          rw [Wv'.out.live] at hl
          obtain ⟨a6, c6, rfl⟩ := hl.slice
          replace Hk := Lib.hid (Hk.out.trans (Kept.of_below hb K))
          have Ha6 := Lib.hid (Ha5.out.below hb)
          clear hb hl Ha5
          have H := Lib.hid (leaks_is (v := .slice none 0 0) (held := []) Ha6.out (Wv'.out.ok.fit (by have := HNN.out; omega)) (by rw [Wv'.out.n]; decide) (.inl ⟨rfl, rfl⟩) (by simp))
          go_wp2_with fail
          refine H.out.mono ?_
          clear H
          rintro e w7 ⟨v7, ys, K7, rfl, hl, _, _, hb⟩
          rw [Wv'.out.live] at hl
          obtain ⟨a7, c7, rfl⟩ := hl.slice
          replace Hk := Lib.hid (Hk.out.trans (Kept.of_below hb K))
          clear hb hl Ha6
          go_wp2_with fail
          go_ret
          exact ⟨rfl, Hk.out.below fun b hb => by rw [HK.out]; exact hb⟩

set_option maxRecDepth 100000 in
theorem lifted (os : Os) (started : os.Started) (H : Type) (enc : TypeId × Value → H) :
    ReturnsInHanded {} Try.checked os 11 .any (Rows.sweepWaitsSpec.pre6 enc Try.prog Try.f11 Rows.sweepWaitsRow.domain false) (Rows.sweepWaitsSpec.post enc Try.prog Try.f11 false true false false) := by
  refine returnsInHanded_of_change (C := Try.checked) own_ started (by kernel_rfl) Try.func11
    (ChangeSpec.witness6 (enc := enc) (C := Try.checked) false ⟨#[], #[.int .i64 0, .int .i64 0], []⟩ 8 (by kernel_rfl) (by kernel_rfl) (by kernel_rfl) (by kernel_rfl)) ?_
  intro W base args ds gs before hval0 hW _ _
  have hval : ∀ (j : Nat) t v, Try.f11.params[j]? = some t → args[j]? = some v → Value.okWide Try.prog W .any base t v := hval0
  have hW' := hW
  obtain ⟨p, q, hA0, hV, rfl, hfz, hnd⟩ := hW
  have hA : DataW.TrodAll enc Try.prog W 0 (fun _ => true) true Try.f11.params.toList args.toList ds p := hA0
  rw [Try.params11] at hA hval
  obtain ⟨v0, vs0, d0, ds0, p0, q0, hargs, rfl, rfl, h0, r0⟩ := trodAll_cons hA
  obtain ⟨v1, vs1, d1, ds1, p1, q1, rfl, rfl, rfl, h1, r1⟩ := trodAll_cons r0
  obtain ⟨rfl, rfl, rfl⟩ := trodAll_nil r1
  obtain rfl : args = #[v0, v1] := by cases args; simp_all
  obtain ⟨a0, rfl, rfl, rfl, w0⟩ := open_int Try.underlying3 (hval 0 3 v0 rfl rfl) h0
  obtain ⟨a1, rfl, rfl, rfl, w1⟩ := open_int Try.underlying3 (hval 1 3 v1 rfl rfl) h1
  clear hA0 hval0
  refine (walk a0 w0 a1 w1 W ).mono fun e W' ⟨he, hg⟩ => ?_
  subst he
  exact ⟨_, rfl, law_post laid_ (by kernel_rfl) rfl hW' hg rfl Try.underlying4 ⟨rfl, rfl, rfl⟩⟩

theorem over : Rows.sweepWaitsRow.holds Try.pinned (OpenSpec.ofChange Rows.sweepWaitsSpec) :=
  OpenClaim.holds_of_wide 11 Try.f11 rfl rfl rfl rfl rfl rfl rfl ⟨rfl, rfl, rfl, rfl, rfl⟩ rfl rfl rfl rfl rfl (by kernel_rfl) Try.func11 (by kernel_rfl)
    (of_decide_eq_true (by kernel_rfl)) (by unfold Func.isWrapper; first | (rw [if_pos (by decide +kernel)]; kernel_rfl) | (rw [if_neg (by decide +kernel)]; exact ⟨rfl, rfl⟩))
    (fun os started H enc _ => lifted os started H enc)

theorem proved : Rows.SweepWaitsSaid :=
  over
#print axioms proved
end Go.Proofs.Ytjndhjmbdhfclaa.sweepWaits
