/- PinsLast holds: a version goes when the last that keeps it is closed, and another one was published. No condition. -/
import Derived.Test.YtjndhjmbdhfclaaPe
import Derived.Test.YtjndhjmbdhfclaaP3
import Derived.Test.YtjndhjmbdhfclaaLaw
namespace Go.Proofs.Ytjndhjmbdhfclaa.pinsLast
set_option maxRecDepth 100000
open Go.ChangeShapes Go.WideShapes Go.ChangeAt Go.RowKit
set_option linter.unusedVariables false
set_option maxRecDepth 100000 in
set_option maxHeartbeats 4000000 in
theorem walk (n : Int) (w0 : (Lit.int .i64 n).wf = true) (at_ : Int) (w1' : (Lit.int .i64 at_).wf = true) (w : World) :
    Calls Try.prog 8 #[.int .i64 n, .int .i64 at_] w fun e w' => e = .returned (.bool true) ∧ Below w.heap.size w w' := by
  have HA := Lib.hid alive18
  by_cases h1 : n < 1
  · skip
    go_enter Try.func8, Try.ntmps8
    go_wp2_with fail
    refine (HA.out w).mono ?_
    rintro e w1 ⟨rfl, hb⟩
    go_wp2_with fail
    go_ret
    exact ⟨rfl, hb⟩
  by_cases h2 : 5 < n
  · skip
    go_enter Try.func8, Try.ntmps8
    go_wp2_with fail
    refine (HA.out w).mono ?_
    rintro e w1 ⟨rfl, hb⟩
    go_wp2_with fail
    go_ret
    exact ⟨rfl, hb⟩
  obtain ⟨N, rfl⟩ := Int.eq_ofNat_of_zero_le (show 0 ≤ n by omega)
  obtain ⟨b1, b2, b3, b4⟩ := pick at_ N (by omega)
  obtain ⟨first, hi⟩ := Int.eq_ofNat_of_zero_le b1
  have hfN : first < N := by omega
  obtain ⟨K, hK⟩ : ∃ K : Nat → Prop, K = fun b => b < w.heap.size := ⟨_, rfl⟩
  have HK := Lib.hid hK
  clear hK
  go_enter Try.func8, Try.ntmps8
  go_wp2_with fail
  refine (HA.out w).mono ?_
  rintro e w1 ⟨rfl, hb⟩
  have Hk := Lib.hid (Kept.of_below hb K)
  clear hb
  go_wp2_with fail
  refine (new_yes 10 _ (by decide) (by decide)).mono ?_
  rintro e w2 ⟨p, rfl, hb, ha⟩
  replace ha := ha K (fun b h => by rw [HK.out] at h; have := Hk.out.size; omega)
  replace Hk := Lib.hid (Hk.out.trans (Kept.of_below hb K))
  clear hb
  have H := Lib.hid (cnew_is ha)
  clear ha
  go_wp2_with fail
  refine H.out.mono ?_
  clear H
  rintro e w3 ⟨q, rfl, ha, hb⟩
  replace Hk := Lib.hid (Hk.out.trans (Kept.of_below hb K))
  clear hb
  have H := Lib.hid (pnew_is ha)
  clear ha
  go_wp2_with fail
  refine H.out.mono ?_
  clear H
  rintro e w4 ⟨P, mb, rfl, ha, hb⟩
  replace Hk := Lib.hid (Hk.out.trans (Kept.of_below hb K))
  clear hb
  have H := Lib.hid (cmake_is (s' := On 1) (h := 1) (e := 0) ⟨6, 0, 0, 0, 0, 0, 0⟩ on_make ha.cel (ok_new (n := 10) (by decide) (by decide)) (by decide))
  have Ha := Lib.hid ha
  clear ha
  go_wp2_with fail
  refine H.out.mono ?_
  clear H
  rintro e w5 ⟨rfl, hc, hk⟩
  have A5 := Lib.hid (Ha.out.turn hc hk)
  have K5 := Lib.hid (Hk.out.trans hk.less)
  clear hc hk Ha Hk
  have H := Lib.hid (publish_now (s' := On 1) (e := 9) (root := 1) (drop_nil _) ((on_ok (c := 1) (by decide)).fit (by decide)) (by decide) A5.out.cel)
  go_wp2_with fail
  refine H.out.mono ?_
  clear H
  rintro e w6 ⟨rfl, hc, hk⟩
  have A6 := Lib.hid (A5.out.turn hc hk)
  have K6 := Lib.hid (K5.out.trans hk.less)
  clear hc hk A5 K5
  go_wp2_with fail
  go_loopw [10] (fun k W => ∃ j : Nat, k = .int .i64 ((j : Int) + 1) ∧ j ≤ N ∧ ∃ es, Pin W K P q p mb (On ((j : Int) + 1)) 1 1 0 es j ∧ PE es 0 j (1, 1) ∧ Kept K w W) (fun k _ => N + 1 - (intOf k).toNat)
  case atStart => exact ⟨0, rfl, by omega, [], A6.out, pe_nil _, K6.out⟩
  case round =>
    obtain ⟨j, rfl, j1, es, ha, he, hk⟩ := hrel
    clear A6 K6
    have He := Lib.hid he
    have hl := he.len
    by_cases hlt : j < N
    · have H := Lib.hid (popen_is (e0 := 0) (s' := On ((j : Int) + 1 + 1)) (by omega) (by omega) (by omega) (.inr ⟨by decide, on_keep (by omega)⟩) ((on_ok (by omega)).fit (by omega)) ha)
      have Hk := Lib.hid hk
      clear ha hk he hl
      go_wp2_with fail
      refine H.out.mono ?_
      clear H
      rintro e w7 ⟨rfl, ha, hk⟩
      have Hk7 := Lib.hid (Hk.out.trans hk)
      have H := Lib.hid (ccount_is 1 (on_count (c := (j : Int) + 1 + 1)) ha.cel ((on_ok (by omega)).fit (by omega)))
      clear hk
      have Ha := Lib.hid ha
      clear ha
      go_wp2_with fail
      refine H.out.mono ?_
      clear H
      rintro e w' ⟨rfl, rfl⟩
      go_wp2_with fail
      go_roundw
      case rel => exact ⟨j + 1, by go_num, by omega, _, by simpa using Ha.out, He.out.snoc, Hk7.out⟩
      case measure => simp [intOf]; omega
    · obtain rfl : N = j := by omega
      have H := Lib.hid (publish_now (s' := On (N : Int)) (e := 0) (root := 0) (by have := on_drop (c := (N : Int) + 1) (by omega); rwa [show (N : Int) + 1 - 1 = N by omega] at this) ((on_ok (by omega)).fit (by omega)) (by decide) ha.cel)
      have Ha := Lib.hid ha
      have Hk := Lib.hid hk
      clear ha hk he hl
      go_wp2_with fail
      refine H.out.mono ?_
      clear H
      rintro e w7 ⟨rfl, hc, hk⟩
      have A7 := Lib.hid (Ha.out.turn hc hk)
      have K7 := Lib.hid (Hk.out.trans hk.less)
      clear hc hk Ha Hk
      go_wp2_with fail
      rw [Int.add_emod_right, hi]
      clear hi b1 b2 b3 b4
      have h0 : PR es first N 0 (1, 1) := He.out.round (by omega)
      go_loopw [15] (fun k W => ∃ j : Nat, k = .int .i64 (j : Int) ∧ j ≤ N ∧ ∃ es s, (j < N → s = On ((N : Int) - j)) ∧ (j = N → s.Ok 11 ∧ ∃ u, s.work 9 = (u, 1) ∧ u.busy = 0) ∧ Pin W K P q p mb s 0 2 0 es N ∧ PR es first N j (1, 1) ∧ Kept K w W) (fun k _ => N - (intOf k).toNat)
      case atStart => exact ⟨0, rfl, by omega, es, _, fun _ => by simp, fun h => by omega, A7.out, h0, K7.out⟩
      case round =>
        obtain ⟨j, rfl, j1, es, s, hs, hs2, ha, he, hk⟩ := hrel
        clear A7 K7 He h0
        have He := Lib.hid he
        have Hk := Lib.hid hk
        clear hk he
        by_cases hlt : j < N
        · obtain rfl := hs hlt
          clear hs hs2
          have Hnd := Lib.hid ha.map.nodup
          have H := Lib.hid (cwork_is (m := 0) 9 (on_work ((N : Int) - j) 9) rfl ha.cel (on_ok (by omega)) (by omega) (by decide))
          have Ha := Lib.hid ha
          clear ha
          go_wp2_with fail
          refine H.out.mono ?_
          clear H
          rintro e w8 ⟨rfl, hc, hk⟩
          have A8 := Lib.hid (Ha.out.turn hc hk)
          have K8 := Lib.hid (Hk.out.trans hk.less)
          clear hc hk Ha Hk
          have H := Lib.hid (ccount_is 1 (on_count (c := (N : Int) - j)) A8.out.cel ((on_ok (by omega)).fit (by omega)))
          have H2 := Lib.hid (cused_is (c := 1) rfl A8.out.cel)
          obtain ⟨t, e0, hd, ht1, ht2⟩ : ∃ t e0, (On ((N : Int) - j)).drop 1 = (t, e0) ∧ (j + 1 < N → t = On ((N : Int) - (j + 1 : Nat))) ∧ (j + 1 = N → t.Ok 11 ∧ ∃ u, t.work 9 = (u, 1) ∧ u.busy = 0) := by
            by_cases hj : j + 1 = N
            · obtain ⟨t, u, q1, q2, q3, q4⟩ := on_last
              rw [show (N : Int) - j = 1 by omega]
              exact ⟨t, 0, q1, fun h => by omega, fun _ => ⟨q2, u, q3, q4⟩⟩
            · refine ⟨_, _, on_drop (by omega), fun _ => by congr 1; omega, fun h => absurd h hj⟩
          have hin := (He.out.mem j hlt).2 (Nat.le_refl _)
          have hlk := He.out.look _ hin
          have wk : (Lit.int .i64 (1 + (((first + j) % N : Nat) : Int))).wf = true := WalkArith.wf_i64 (by have := He.out.sub _ hin; omega)
          have H3 := Lib.hid (pclose_is (s' := t) (e0 := e0) wk hin (by rw [hlk]; exact hd) ((on_ok (by omega)).fit (by omega)) A8.out)
          have He2 := Lib.hid (He.out.next Hnd.out hlt)
          have Ht1 := Lib.hid ht1
          have Ht2 := Lib.hid ht2
          have hmod : ((first : Int) + (j : Int)).tmod (N : Int) = (((first + j) % N : Nat) : Int) := by rw [Int.tmod_eq_emod_of_nonneg (by omega)]; simp
          have hmod2 : ((first : Int) + (j : Int)) % (N : Int) = (((first + j) % N : Nat) : Int) := by simp
          have hml : (first + j) % N < N := Nat.mod_lt _ (by omega)
          clear hd hin hlk ht1 ht2 He
          generalize (first + j) % N = r at *
          go_wp2_with fail
          refine H.out.mono ?_
          clear H
          rintro e w' ⟨rfl, rfl⟩
          go_wp2_with fail
          refine H2.out.mono ?_
          clear H2
          rintro e w' ⟨rfl, rfl⟩
          go_wp2_with fail
          refine H3.out.mono ?_
          clear H3
          rintro e w9 ⟨rfl, ha, hk⟩
          have K9 := Lib.hid (K8.out.trans hk)
          clear hk hmod hmod2
          go_wp2_with fail
          go_roundw
          case rel => exact ⟨j + 1, by go_num, by omega, _, t, Ht1.out, Ht2.out, ha, He2.out, K9.out⟩
          case measure => simp [intOf]; omega
        · obtain rfl : N = j := by omega
          obtain ⟨q1, u, q2, q3⟩ := hs2 rfl
          have hlen := He.out.len
          have H := Lib.hid (cwork_is (m := 1) 9 q2 rfl ha.cel q1 (by omega) (by decide))
          have Ha := Lib.hid ha
          have Q3 := Lib.hid q3
          clear ha q1 q2 q3 hs hs2
          go_wp2_with fail
          refine H.out.mono ?_
          clear H
          rintro e w8 ⟨rfl, hc, hk⟩
          have A8 := Lib.hid (Ha.out.turn hc hk)
          have K8 := Lib.hid (Hk.out.trans hk.less)
          clear hc hk Ha Hk
          have H := Lib.hid (cused_is Q3.out A8.out.cel)
          go_wp2_with fail
          refine H.out.mono ?_
          clear H
          rintro e w' ⟨rfl, rfl⟩
          have H := Lib.hid (pall_is A8.out (by omega))
          go_wp2_with fail
          refine H.out.mono ?_
          clear H
          rintro e w9 ⟨v, ys, Ko, rfl, hl5, _, hasc, hmem, hb⟩
          have hys : ys.length = 0 := by
            have h1 := same_length hasc.nodup A8.out.map.nodup hmem
            simp at h1
            omega
          obtain ⟨av, cv, rfl⟩ := hl5.slice
          rw [hys]
          have K9 := Lib.hid (K8.out.trans (Kept.of_below hb K))
          clear hl5 hasc hmem hb hys hlen
          go_wp2_with fail
          go_ret
          exact ⟨rfl, K9.out.below fun b hb => by rw [HK.out]; exact hb⟩

set_option maxRecDepth 100000 in
theorem lifted (os : Os) (started : os.Started) (H : Type) (enc : TypeId × Value → H) :
    ReturnsInHanded {} Try.checked os 8 .any (Rows.pinsLastSpec.pre6 enc Try.prog Try.f8 Rows.pinsLastRow.domain false) (Rows.pinsLastSpec.post enc Try.prog Try.f8 false true false false) := by
  refine returnsInHanded_of_change (C := Try.checked) own_ started (by kernel_rfl) Try.func8
    (ChangeSpec.witness6 (enc := enc) (C := Try.checked) false ⟨#[], #[.int .i64 0, .int .i64 0], []⟩ 8 (by kernel_rfl) (by kernel_rfl) (by kernel_rfl) (by kernel_rfl)) ?_
  intro W base args ds gs before hval0 hW _ _
  have hval : ∀ (j : Nat) t v, Try.f8.params[j]? = some t → args[j]? = some v → Value.okWide Try.prog W .any base t v := hval0
  have hW' := hW
  obtain ⟨p, q, hA0, hV, rfl, hfz, hnd⟩ := hW
  have hA : DataW.TrodAll enc Try.prog W 0 (fun _ => true) true Try.f8.params.toList args.toList ds p := hA0
  rw [Try.params8] at hA hval
  obtain ⟨v0, vs0, d0, ds0, p0, q0, hargs, rfl, rfl, h0, r0⟩ := trodAll_cons hA
  obtain ⟨v1, vs1, d1, ds1, p1, q1, rfl, rfl, rfl, h1, r1⟩ := trodAll_cons r0
  obtain ⟨rfl, rfl, rfl⟩ := trodAll_nil r1
  obtain rfl : args = #[v0, v1] := by cases args; simp_all
  obtain ⟨a0, rfl, rfl, rfl, w0⟩ := open_int Try.underlying3 (hval 0 3 v0 rfl rfl) h0
  obtain ⟨a1, rfl, rfl, rfl, w1⟩ := open_int Try.underlying3 (hval 1 3 v1 rfl rfl) h1
  clear hA0 hval0
  refine (walk a0 w0 a1 w1 W ).mono fun e W' ⟨he, hg⟩ => ?_
  subst he
  exact ⟨_, rfl, law_post laid_ (by kernel_rfl) rfl hW' hg rfl Try.underlying4 ⟨rfl, rfl, rfl⟩⟩

theorem over : Rows.pinsLastRow.holds Try.pinned (OpenSpec.ofChange Rows.pinsLastSpec) :=
  OpenClaim.holds_of_wide 8 Try.f8 rfl rfl rfl rfl rfl rfl rfl ⟨rfl, rfl, rfl, rfl, rfl⟩ rfl rfl rfl rfl rfl (by kernel_rfl) Try.func8 (by kernel_rfl)
    (of_decide_eq_true (by kernel_rfl)) (by unfold Func.isWrapper; first | (rw [if_pos (by decide +kernel)]; kernel_rfl) | (rw [if_neg (by decide +kernel)]; exact ⟨rfl, rfl⟩))
    (fun os started H enc _ => lifted os started H enc)

theorem proved : Rows.PinsLastSaid :=
  over
#print axioms proved
end Go.Proofs.Ytjndhjmbdhfclaa.pinsLast
