/- PinsNone holds: what was never opened, and what is none, is closed by nobody; with no cell there are no snapshots. No condition. -/
import Derived.Test.YtjndhjmbdhfclaaPe
import Derived.Test.YtjndhjmbdhfclaaP3
import Derived.Test.YtjndhjmbdhfclaaLaw
namespace Go.Proofs.Ytjndhjmbdhfclaa.pinsNone
set_option maxRecDepth 100000
open Go.ChangeShapes Go.WideShapes Go.ChangeAt Go.RowKit
set_option linter.unusedVariables false
set_option maxRecDepth 100000 in
set_option maxHeartbeats 4000000 in
theorem walk (sn : Int) (w0 : (Lit.int .i64 sn).wf = true) (n : Int) (w1' : (Lit.int .i64 n).wf = true) (w : World) :
    Calls Try.prog 6 #[.int .i64 sn, .int .i64 n] w fun e w' => e = .returned (.bool true) ∧ Below w.heap.size w w' := by
  have HA := Lib.hid alive18
  have ok : (Ar.new 5).Ok 0 := ok_new (by decide) (by decide)
  by_cases h1 : n < 0
  · skip
    go_enter Try.func6, Try.ntmps6
    go_wp2_with fail
    refine (HA.out w).mono ?_
    rintro e w1 ⟨rfl, hb⟩
    go_wp2_with fail
    go_ret
    exact ⟨rfl, hb⟩
  by_cases h2 : 5 < n
  · skip
    go_enter Try.func6, Try.ntmps6
    go_wp2_with fail
    refine (HA.out w).mono ?_
    rintro e w1 ⟨rfl, hb⟩
    go_wp2_with fail
    go_ret
    exact ⟨rfl, hb⟩
  by_cases h3 : 1 ≤ sn ∧ sn ≤ n
  · obtain ⟨h3, h4⟩ := h3
    go_enter Try.func6, Try.ntmps6
    go_wp2_with fail
    refine (HA.out w).mono ?_
    rintro e w1 ⟨rfl, hb⟩
    go_wp2_with fail
    go_ret
    exact ⟨rfl, hb⟩
  obtain ⟨N, rfl⟩ := Int.eq_ofNat_of_zero_le (show 0 ≤ n by omega)
  have Hno := Lib.hid h3
  rcases (show (sn < 1) ∨ (1 ≤ sn ∧ (N : Int) < sn) by omega) with h4 | ⟨h4, h5⟩
  all_goals
    clear h3
    obtain ⟨K, hK⟩ : ∃ K : Nat → Prop, K = fun b => b < w.heap.size := ⟨_, rfl⟩
    have HK := Lib.hid hK
    clear hK
    go_enter Try.func6, Try.ntmps6
    go_wp2_with fail
    refine (HA.out w).mono ?_
    rintro e w1 ⟨rfl, hb⟩
    have Hk := Lib.hid (Kept.of_below hb K)
    clear hb
    go_wp2_with fail
    refine (new_yes 5 _ (by decide) (by decide)).mono ?_
    rintro e w2 ⟨p, rfl, hb, ha⟩
    replace ha := ha K (fun b h => by rw [HK.out] at h; have := Hk.out.size; omega)
    replace Hk := Lib.hid (Hk.out.trans (Kept.of_below hb K))
    clear hb
    have H := Lib.hid (cnew_is ha)
    clear ha
    go_wp2_with fail
    refine H.out.mono ?_
    clear H
    rintro e w3 ⟨q, rfl, ha, hb⟩
    replace Hk := Lib.hid (Hk.out.trans (Kept.of_below hb K))
    clear hb
    have H := Lib.hid (pnew_is ha)
    clear ha
    go_wp2_with fail
    refine H.out.mono ?_
    clear H
    rintro e w4 ⟨P, mb, rfl, ha, hb⟩
    replace Hk := Lib.hid (Hk.out.trans (Kept.of_below hb K))
    clear hb
    go_wp2_with fail
    have Ha := Lib.hid ha
    clear ha
    go_loopw [7] (fun k W => ∃ j : Nat, k = .int .i64 (j : Int) ∧ j ≤ N ∧ ∃ es, Pin W K P q p mb (Ar.new 5) 0 0 0 es j ∧ PE es 0 j (0, 0) ∧ Kept K w W) (fun k _ => N - (intOf k).toNat)
    case atStart => exact ⟨0, rfl, by omega, [], Ha.out, pe_nil _, Hk.out⟩
    case round =>
      obtain ⟨j, rfl, j1, es, ha, he, hk⟩ := hrel
      clear Ha Hk
      have He := Lib.hid he
      have hl := he.len
      by_cases hlt : j < N
      · have H := Lib.hid (popen_is (e0 := 0) (s' := Ar.new 5) (by omega) (by omega) (by omega) (.inl ⟨rfl, rfl⟩) (ok.fit (by decide)) ha)
        have Hk := Lib.hid hk
        clear ha hk he hl
        go_wp2_with fail
        refine H.out.mono ?_
        clear H
        rintro e w5 ⟨rfl, ha, hk⟩
        have Hk5 := Lib.hid (Hk.out.trans hk)
        clear hk
        go_wp2_with fail
        go_roundw
        case rel => exact ⟨j + 1, by go_num, by omega, _, by simpa using ha, He.out.snoc, Hk5.out⟩
        case measure => simp [intOf]; omega
      · obtain rfl : N = j := by omega
        have hni : ¬ sn ∈ es.map (·.1) := fun h => by have := (he.mem sn).1 h; have := Hno.out; omega
        have H0 := proot_is w0 ha
        rw [plook_none hni, show phas es sn = false from decide_eq_false hni] at H0
        have H := Lib.hid H0
        have Hk := Lib.hid hk
        have Hni := Lib.hid hni
        have Hl := Lib.hid hl
        clear ha hk he hl H0 hni
        go_wp2_with fail
        refine H.out.mono ?_
        clear H
        rintro e w5 ⟨rfl, ha, hb⟩
        have Hk5 := Lib.hid (Hk.out.trans (Kept.of_below hb K))
        have H := Lib.hid (pclose_no w0 Hni.out ha)
        clear ha hb
        go_wp2_with fail
        refine H.out.mono ?_
        clear H
        rintro e w6 ⟨rfl, ha, hb⟩
        have Hk6 := Lib.hid (Hk5.out.trans (Kept.of_below hb K))
        have H := Lib.hid (pall_is ha (by omega))
        have Ha := Lib.hid ha
        clear ha hb
        go_wp2_with fail
        refine H.out.mono ?_
        clear H
        rintro e w7 ⟨v, ys, Ko, rfl, hl5, _, hasc, hmem, hb⟩
        have hys : ys.length = N := by
          have h1 := same_length hasc.nodup Ha.out.map.nodup hmem
          have := Hl.out
          simp at h1
          omega
        obtain ⟨av, cv, rfl⟩ := hl5.slice
        rw [hys]
        have Hk7 := Lib.hid (Hk6.out.trans (Kept.of_below hb K))
        have A7 := Lib.hid (Ha.out.below hb)
        clear hl5 hasc hmem hb hys Ha
        go_wp2_with fail
        refine (pnew_nil2 _ _).mono ?_
        rintro e w' ⟨rfl, rfl⟩
        have H := Lib.hid (cnew_is A7.out.cel.ars)
        go_wp2_with fail
        refine H.out.mono ?_
        clear H
        rintro e w8 ⟨q8, rfl, _, hb⟩
        have Hk8 := Lib.hid (Hk7.out.trans (Kept.of_below hb K))
        clear hb
        go_wp2_with fail
        refine (pnew_nil1 _ _).mono ?_
        rintro e w' ⟨rfl, rfl⟩
        go_wp2_with fail
        go_ret
        exact ⟨rfl, Hk8.out.below fun b hb => by rw [HK.out]; exact hb⟩

set_option maxRecDepth 100000 in
theorem lifted (os : Os) (started : os.Started) (H : Type) (enc : TypeId × Value → H) :
    ReturnsInHanded {} Try.checked os 6 .any (Rows.pinsNoneSpec.pre6 enc Try.prog Try.f6 Rows.pinsNoneRow.domain false) (Rows.pinsNoneSpec.post enc Try.prog Try.f6 false true false false) := by
  refine returnsInHanded_of_change (C := Try.checked) own_ started (by kernel_rfl) Try.func6
    (ChangeSpec.witness6 (enc := enc) (C := Try.checked) false ⟨#[], #[.int .i64 0, .int .i64 0], []⟩ 8 (by kernel_rfl) (by kernel_rfl) (by kernel_rfl) (by kernel_rfl)) ?_
  intro W base args ds gs before hval0 hW _ _
  have hval : ∀ (j : Nat) t v, Try.f6.params[j]? = some t → args[j]? = some v → Value.okWide Try.prog W .any base t v := hval0
  have hW' := hW
  obtain ⟨p, q, hA0, hV, rfl, hfz, hnd⟩ := hW
  have hA : DataW.TrodAll enc Try.prog W 0 (fun _ => true) true Try.f6.params.toList args.toList ds p := hA0
  rw [Try.params6] at hA hval
  obtain ⟨v0, vs0, d0, ds0, p0, q0, hargs, rfl, rfl, h0, r0⟩ := trodAll_cons hA
  obtain ⟨v1, vs1, d1, ds1, p1, q1, rfl, rfl, rfl, h1, r1⟩ := trodAll_cons r0
  obtain ⟨rfl, rfl, rfl⟩ := trodAll_nil r1
  obtain rfl : args = #[v0, v1] := by cases args; simp_all
  obtain ⟨a0, rfl, rfl, rfl, w0⟩ := open_int Try.underlying3 (hval 0 3 v0 rfl rfl) h0
  obtain ⟨a1, rfl, rfl, rfl, w1⟩ := open_int Try.underlying3 (hval 1 3 v1 rfl rfl) h1
  clear hA0 hval0
  refine (walk a0 w0 a1 w1 W ).mono fun e W' ⟨he, hg⟩ => ?_
  subst he
  exact ⟨_, rfl, law_post laid_ (by kernel_rfl) rfl hW' hg rfl Try.underlying4 ⟨rfl, rfl, rfl⟩⟩

theorem over : Rows.pinsNoneRow.holds Try.pinned (OpenSpec.ofChange Rows.pinsNoneSpec) :=
  OpenClaim.holds_of_wide 6 Try.f6 rfl rfl rfl rfl rfl rfl rfl ⟨rfl, rfl, rfl, rfl, rfl⟩ rfl rfl rfl rfl rfl (by kernel_rfl) Try.func6 (by kernel_rfl)
    (of_decide_eq_true (by kernel_rfl)) (by unfold Func.isWrapper; first | (rw [if_pos (by decide +kernel)]; kernel_rfl) | (rw [if_neg (by decide +kernel)]; exact ⟨rfl, rfl⟩))
    (fun os started H enc _ => lifted os started H enc)

theorem proved : Rows.PinsNoneSaid :=
  over
#print axioms proved
end Go.Proofs.Ytjndhjmbdhfclaa.pinsNone
