/- PinsMany holds: as many snapshots as may be; one more is refused; a number is never given twice. No condition. -/
import Derived.Test.YtjndhjmbdhfclaaPe
import Derived.Test.YtjndhjmbdhfclaaP3
import Derived.Test.YtjndhjmbdhfclaaLaw
namespace Go.Proofs.Ytjndhjmbdhfclaa.pinsMany
set_option maxRecDepth 100000
open Go.ChangeShapes Go.WideShapes Go.ChangeAt Go.RowKit
set_option linter.unusedVariables false
set_option maxRecDepth 100000 in
set_option maxHeartbeats 4000000 in
theorem walk (n : Int) (w0 : (Lit.int .i64 n).wf = true) (w : World) :
    Calls Try.prog 5 #[.int .i64 n] w fun e w' => e = .returned (.bool true) ∧ Below w.heap.size w w' := by
  have HA := Lib.hid alive18
  have ok : (Ar.new 5).Ok 0 := ok_new (by decide) (by decide)
  by_cases h1 : n < 0
  · skip
    go_enter Try.func5, Try.ntmps5
    go_wp2_with fail
    refine (HA.out w).mono ?_
    rintro e w1 ⟨rfl, hb⟩
    go_wp2_with fail
    go_ret
    exact ⟨rfl, hb⟩
  by_cases h2 : 20 < n
  · skip
    go_enter Try.func5, Try.ntmps5
    go_wp2_with fail
    refine (HA.out w).mono ?_
    rintro e w1 ⟨rfl, hb⟩
    go_wp2_with fail
    go_ret
    exact ⟨rfl, hb⟩
  obtain ⟨N, rfl⟩ := Int.eq_ofNat_of_zero_le (show 0 ≤ n by omega)
  obtain ⟨K, hK⟩ : ∃ K : Nat → Prop, K = fun b => b < w.heap.size := ⟨_, rfl⟩
  have HK := Lib.hid hK
  clear hK
  go_enter Try.func5, Try.ntmps5
  go_wp2_with fail
  refine (HA.out w).mono ?_
  rintro e w1 ⟨rfl, hb⟩
  have Hk := Lib.hid (Kept.of_below hb K)
  clear hb
  go_wp2_with fail
  refine (new_yes 5 _ (by decide) (by decide)).mono ?_
  rintro e w2 ⟨p, rfl, hb, ha⟩
  replace ha := ha K (fun b h => by rw [HK.out] at h; have := Hk.out.size; omega)
  replace Hk := Lib.hid (Hk.out.trans (Kept.of_below hb K))
  clear hb
  have H := Lib.hid (cnew_is ha)
  clear ha
  go_wp2_with fail
  refine H.out.mono ?_
  clear H
  rintro e w3 ⟨q, rfl, ha, hb⟩
  replace Hk := Lib.hid (Hk.out.trans (Kept.of_below hb K))
  clear hb
  have H := Lib.hid (pnew_is ha)
  clear ha
  go_wp2_with fail
  refine H.out.mono ?_
  clear H
  rintro e w4 ⟨P, mb, rfl, ha, hb⟩
  replace Hk := Lib.hid (Hk.out.trans (Kept.of_below hb K))
  clear hb
  go_wp2_with fail
  have Ha := Lib.hid ha
  clear ha
  go_loopw [5] (fun k W => ∃ j m : Nat, k = .int .i64 ((j : Int) + 1) ∧ j ≤ N ∧ m = min j 5 ∧ ∃ es, Pin W K P q p mb (Ar.new 5) 0 0 0 es m ∧ PE es 0 m (0, 0) ∧ Kept K w W) (fun k _ => N + 1 - (intOf k).toNat)
  case atStart => exact ⟨0, 0, rfl, by omega, rfl, [], Ha.out, pe_nil _, Hk.out⟩
  case round =>
    obtain ⟨j, m, rfl, j1, hm, es, ha, he, hk⟩ := hrel
    clear Ha Hk
    have Hm := Lib.hid hm
    have He := Lib.hid he
    have hl := he.len
    by_cases hlt : j < N
    · by_cases j5 : j < 5
      · have H := Lib.hid (popen_is (e0 := 0) (s' := Ar.new 5) (by omega) (by omega) (by omega) (.inl ⟨rfl, rfl⟩) (ok.fit (by decide)) ha)
        have Hk := Lib.hid hk
        obtain rfl : m = j := by omega
        clear ha hk hm he hl
        go_wp2_with fail
        refine H.out.mono ?_
        clear H
        rintro e w5 ⟨rfl, ha, hk⟩
        have Hk5 := Lib.hid (Hk.out.trans hk)
        clear hk
        go_wp2_with fail
        go_roundw
        case rel => exact ⟨m + 1, m + 1, by go_num, by omega, by omega, _, by simpa using ha, He.out.snoc, Hk5.out⟩
        case measure => simp [intOf]; omega
      · have H := Lib.hid (popen_many (by omega) ha)
        have Hk := Lib.hid hk
        have Ha := Lib.hid ha
        have g5 : decide ((j : Int) + 1 ≤ 5) = false := by simp; omega
        clear ha hk hm he hl
        go_wp2_with fail
        refine H.out.mono ?_
        clear H
        rintro e w' ⟨rfl, rfl⟩
        go_wp2_with fail
        go_roundw
        case rel => exact ⟨j + 1, m, by go_num, by omega, by have := Hm.out; omega, _, Ha.out, He.out, Hk.out⟩
        case measure => simp [intOf]; omega
    · obtain rfl : N = j := by omega
      have hmin : min (N : Int) 5 = (m : Int) := by omega
      have H := Lib.hid (pall_is ha (by omega))
      have Hk := Lib.hid hk
      have Ha := Lib.hid ha
      have Hl := Lib.hid hl
      have m5 : m ≤ 5 := by omega
      obtain ⟨wo, rfl⟩ : ∃ wo : World, wo = wr := ⟨_, rfl⟩
      clear ha hk hm he hl
      go_wp2_with fail
      refine H.out.mono ?_
      clear H
      rintro e w5 ⟨v, ys, Ko, rfl, hl5, _, hasc, hmem, hb⟩
      have hys : ys.length = m := by
        have h1 := same_length hasc.nodup Ha.out.map.nodup hmem
        have := Hl.out
        simp at h1
        omega
      obtain ⟨av, cv, rfl⟩ := hl5.slice
      rw [hys]
      have A5 := Lib.hid (Ha.out.below hb)
      have K5 := Lib.hid (Hk.out.trans (Kept.of_below hb K))
      clear hl5 hasc hmem hb hys Hm
      go_wp2_with fail
      clear hmin
      go_loopw [10] (fun k W => ∃ j : Nat, k = .int .i64 ((j : Int) + 1) ∧ j ≤ m ∧ ∃ es, Pin W K P q p mb (Ar.new 5) 0 0 0 es m ∧ PE es j m (0, 0) ∧ Kept K w W) (fun k _ => m + 1 - (intOf k).toNat)
      case atStart => exact ⟨0, rfl, by omega, es, A5.out, He.out, K5.out⟩
      case round =>
        obtain ⟨j, rfl, j1, es, ha, he, hk⟩ := hrel
        clear Ha Hk A5 K5 He Hl
        have Hk := Lib.hid hk
        have He := Lib.hid he
        by_cases hlt : j < m
        · have wk : (Lit.int .i64 ((j : Int) + 1)).wf = true := WalkArith.wf_i64 (by omega)
          have hin := (he.mem ((j : Int) + 1)).2 (by omega)
          have hlk := he.look _ hin
          have H := Lib.hid (pclose_is (s' := Ar.new 5) (e0 := 9) wk hin (by rw [hlk]; exact drop_nil _) (ok.fit (by decide)) ha)
          have Hnd := Lib.hid ha.map.nodup
          have hj10 : (j : Int) ≤ 10 := by omega
          clear ha hk he hin hlk ok m5 j1
          have Hlt := Lib.hid hlt
          replace hlt : (j : Int) + 1 ≤ (m : Int) := by omega
          go_wp2_with fail
          refine H.out.mono ?_
          clear H
          rintro e w6 ⟨rfl, ha, hk⟩
          have Hk6 := Lib.hid (Hk.out.trans hk)
          have H := Lib.hid (pclose_no wk (fun h => (mem_cut.1 h).2 rfl) ha)
          clear ha hk
          go_wp2_with fail
          refine H.out.mono ?_
          clear H
          rintro e w7 ⟨rfl, ha, hb⟩
          have Hk7 := Lib.hid (Hk6.out.trans (Kept.of_below hb K))
          clear hb
          go_wp2_with fail
          go_roundw
          case rel => exact ⟨j + 1, by go_num, by omega, _, ha, He.out.cut Hnd.out Hlt.out, Hk7.out⟩
          case measure => simp [intOf]; omega
        · obtain rfl : m = j := by omega
          have hlen := he.len
          have H := Lib.hid (popen_is (e0 := 0) (s' := Ar.new 5) (by omega) (by omega) (by omega) (.inl ⟨rfl, rfl⟩) (ok.fit (by decide)) ha)
          clear ha hk he hlen
          go_wp2_with fail
          refine H.out.mono ?_
          clear H
          rintro e w6 ⟨rfl, ha, hk⟩
          have Hk6 := Lib.hid (Hk.out.trans hk)
          have H := Lib.hid (pclose_no (k := 0) (WalkArith.wf_i64 (by decide)) (fun h => by have := ha.top _ h; omega) ha)
          clear ha hk
          go_wp2_with fail
          refine H.out.mono ?_
          clear H
          rintro e w7 ⟨rfl, ha, hb⟩
          have Hk7 := Lib.hid (Hk6.out.trans (Kept.of_below hb K))
          clear hb
          go_wp2_with fail
          go_ret
          exact ⟨rfl, Hk7.out.below fun b hb => by rw [HK.out]; exact hb⟩

set_option maxRecDepth 100000 in
theorem lifted (os : Os) (started : os.Started) (H : Type) (enc : TypeId × Value → H) :
    ReturnsInHanded {} Try.checked os 5 .any (Rows.pinsManySpec.pre6 enc Try.prog Try.f5 Rows.pinsManyRow.domain false) (Rows.pinsManySpec.post enc Try.prog Try.f5 false true false false) := by
  refine returnsInHanded_of_change (C := Try.checked) own_ started (by kernel_rfl) Try.func5
    (ChangeSpec.witness6 (enc := enc) (C := Try.checked) false ⟨#[], #[.int .i64 0], []⟩ 8 (by kernel_rfl) (by kernel_rfl) (by kernel_rfl) (by kernel_rfl)) ?_
  intro W base args ds gs before hval0 hW _ _
  have hval : ∀ (j : Nat) t v, Try.f5.params[j]? = some t → args[j]? = some v → Value.okWide Try.prog W .any base t v := hval0
  have hW' := hW
  obtain ⟨p, q, hA0, hV, rfl, hfz, hnd⟩ := hW
  have hA : DataW.TrodAll enc Try.prog W 0 (fun _ => true) true Try.f5.params.toList args.toList ds p := hA0
  rw [Try.params5] at hA hval
  obtain ⟨v0, vs0, d0, ds0, p0, q0, hargs, rfl, rfl, h0, r0⟩ := trodAll_cons hA
  obtain ⟨rfl, rfl, rfl⟩ := trodAll_nil r0
  obtain rfl : args = #[v0] := by cases args; simp_all
  obtain ⟨a0, rfl, rfl, rfl, w0⟩ := open_int Try.underlying3 (hval 0 3 v0 rfl rfl) h0
  clear hA0 hval0
  refine (walk a0 w0 W ).mono fun e W' ⟨he, hg⟩ => ?_
  subst he
  exact ⟨_, rfl, law_post laid_ (by kernel_rfl) rfl hW' hg rfl Try.underlying4 ⟨rfl, rfl, rfl⟩⟩

theorem over : Rows.pinsManyRow.holds Try.pinned (OpenSpec.ofChange Rows.pinsManySpec) :=
  OpenClaim.holds_of_wide 5 Try.f5 rfl rfl rfl rfl rfl rfl rfl ⟨rfl, rfl, rfl, rfl, rfl⟩ rfl rfl rfl rfl rfl (by kernel_rfl) Try.func5 (by kernel_rfl)
    (of_decide_eq_true (by kernel_rfl)) (by unfold Func.isWrapper; first | (rw [if_pos (by decide +kernel)]; kernel_rfl) | (rw [if_neg (by decide +kernel)]; exact ⟨rfl, rfl⟩))
    (fun os started H enc _ => lifted os started H enc)

theorem proved : Rows.PinsManySaid :=
  over
#print axioms proved
end Go.Proofs.Ytjndhjmbdhfclaa.pinsMany
