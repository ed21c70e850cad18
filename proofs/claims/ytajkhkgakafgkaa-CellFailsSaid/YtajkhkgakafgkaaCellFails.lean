/- CellFails holds: each publish that comes too late is counted, and changes nothing. No condition. -/
import Derived.Test.YtajkhkgakafgkaaC2
import Derived.Test.YtajkhkgakafgkaaArg
namespace Go.Proofs.Ytajkhkgakafgkaa.cellFails
open Go.ChangeShapes Go.WideShapes Go.ChangeAt Go.RowKit
set_option linter.unusedVariables false

def s1 : Ar := ((Ar.new 5).make ⟨6, 0, 0, 0, 0, 0, 0⟩).1
theorem o1 : s1.Ok 4 := ok_make (ok_new (by decide) (by decide)) _
theorem f1 : s1.Fit := o1.fit (by decide)

set_option maxHeartbeats 2000000 in
theorem walk (v : Value) (xs : List Int) (w : World) (hx : IntsArg w v xs) :
    Calls Try.prog 8 #[v] w fun e w' => e = .returned (.bool true) ∧ Below w.heap.size w w' := by
  have HA := Lib.hid alive17
  obtain ⟨K, hK⟩ : ∃ K : Nat → Prop, K = fun b => b < w.heap.size := ⟨_, rfl⟩
  have HK := Lib.hid hK
  clear hK
  obtain ⟨va, vc, rfl⟩ := hx.val
  have hl := hx.len
  unfold maxLen at hl
  have HX := Lib.hid hx
  clear hx
  by_cases h1 : 30 < xs.length
  · have h1' : (30 : Int) < (xs.length : Int) := by omega
    go_enter Try.func8, Try.ntmps8
    go_wp2_with fail
    refine (HA.out w).mono ?_
    rintro e w1 ⟨rfl, hb⟩
    go_wp2_with fail
    go_ret
    exact ⟨rfl, hb⟩
  by_cases hz : xs.length = 0
  · skip
    have h1' : ¬ ((30 : Int) < (xs.length : Int)) := by omega
    go_enter Try.func8, Try.ntmps8
    go_wp2_with fail
    refine (HA.out w).mono ?_
    rintro e w1 ⟨rfl, hb⟩
    have Hk := Lib.hid (Kept.of_below hb K)
    clear hb
    go_wp2_with fail
    refine (new_yes 5 _ (by decide) (by decide)).mono ?_
    rintro e w2 ⟨p, rfl, hb, ha⟩
    replace ha := ha K (fun b h => by rw [HK.out] at h; have := Hk.out.size; omega)
    replace Hk := Lib.hid (Hk.out.trans (Kept.of_below hb K))
    clear hb
    have H := Lib.hid (cnew_is ha)
    clear ha
    go_wp2_with fail
    refine H.out.mono ?_
    clear H
    rintro e w3 ⟨q, rfl, ha, hb⟩
    replace Hk := Lib.hid (Hk.out.trans (Kept.of_below hb K))
    clear hb
    have H := Lib.hid (cmake_is (s' := s1) (h := 1) (e := 0) ⟨6, 0, 0, 0, 0, 0, 0⟩ rfl ha (ok_new (by decide) (by decide)) (by decide))
    clear ha
    go_wp2_with fail
    refine H.out.mono ?_
    clear H
    rintro e w4 ⟨rfl, ha, hk⟩
    replace Hk := Lib.hid (Hk.out.trans hk)
    clear hk
    have H := Lib.hid (publish_now (s' := s1) (e := 9) (root := 1) rfl f1 (by decide) ha)
    clear ha
    go_wp2_with fail
    refine H.out.mono ?_
    clear H
    rintro e w5 ⟨rfl, ha, hk⟩
    replace Hk := Lib.hid (Hk.out.trans hk)
    clear hk
    go_wp2_with fail
    go_loopw [7, 37] (fun n i W => ∃ (j : Nat) (c : Int), i = .int .i64 j ∧ n = .int .i64 c ∧ j ≤ xs.length ∧ 0 ≤ c ∧ c ≤ j ∧ Cel W K q p s1 1 1 c ∧ Kept K w W) (fun _ i _ => xs.length - (intOf i).toNat)
    case atStart => exact ⟨0, 0, rfl, rfl, by omega, by omega, by omega, ha, Hk.out⟩
    case round =>
      obtain ⟨j, c, rfl, rfl, j1, c0, c1, ha, hk⟩ := hrel
      replace Hk := Lib.hid hk
      clear hk
      by_cases hlt : j < xs.length
      · skip
        omega
      · obtain rfl : j = xs.length := by omega
        have H := Lib.hid (look_is ha)
        clear ha
        go_wp2_with fail
        refine H.out.mono ?_
        clear H
        rintro e w6 ⟨rfl, ha, hk⟩
        replace Hk := Lib.hid (Hk.out.trans (Kept.of_below hk _))
        clear hk
        go_wp2_with fail
        go_ret
        exact ⟨rfl, Hk.out.below fun b hb => by rw [HK.out]; exact hb⟩
  · obtain ⟨b, off, c, e, hb0, hc0, hcells⟩ := HX.out.cell 0 (by omega)
    injection e with e1 e2 e3
    subst e1 e3
    have Hc := Lib.hid hcells
    clear hcells
    have h1' : ¬ ((30 : Int) < (xs.length : Int)) := by omega
    go_enter Try.func8, Try.ntmps8
    go_wp2_with fail
    refine (HA.out w).mono ?_
    rintro e w1 ⟨rfl, hb⟩
    have Hk := Lib.hid (Kept.of_below hb K)
    clear hb
    go_wp2_with fail
    refine (new_yes 5 _ (by decide) (by decide)).mono ?_
    rintro e w2 ⟨p, rfl, hb, ha⟩
    replace ha := ha K (fun b h => by rw [HK.out] at h; have := Hk.out.size; omega)
    replace Hk := Lib.hid (Hk.out.trans (Kept.of_below hb K))
    clear hb
    have H := Lib.hid (cnew_is ha)
    clear ha
    go_wp2_with fail
    refine H.out.mono ?_
    clear H
    rintro e w3 ⟨q, rfl, ha, hb⟩
    replace Hk := Lib.hid (Hk.out.trans (Kept.of_below hb K))
    clear hb
    have H := Lib.hid (cmake_is (s' := s1) (h := 1) (e := 0) ⟨6, 0, 0, 0, 0, 0, 0⟩ rfl ha (ok_new (by decide) (by decide)) (by decide))
    clear ha
    go_wp2_with fail
    refine H.out.mono ?_
    clear H
    rintro e w4 ⟨rfl, ha, hk⟩
    replace Hk := Lib.hid (Hk.out.trans hk)
    clear hk
    have H := Lib.hid (publish_now (s' := s1) (e := 9) (root := 1) rfl f1 (by decide) ha)
    clear ha
    go_wp2_with fail
    refine H.out.mono ?_
    clear H
    rintro e w5 ⟨rfl, ha, hk⟩
    replace Hk := Lib.hid (Hk.out.trans hk)
    clear hk
    go_wp2_with fail
    go_loopw [7, 37] (fun n i W => ∃ (j : Nat) (c : Int), i = .int .i64 j ∧ n = .int .i64 c ∧ j ≤ xs.length ∧ 0 ≤ c ∧ c ≤ j ∧ Cel W K q p s1 1 1 c ∧ Kept K w W) (fun _ i _ => xs.length - (intOf i).toNat)
    case atStart => exact ⟨0, 0, rfl, rfl, by omega, by omega, by omega, ha, Hk.out⟩
    case round =>
      obtain ⟨j, c, rfl, rfl, j1, c0, c1, ha, hk⟩ := hrel
      replace Hk := Lib.hid hk
      clear hk
      by_cases hlt : j < xs.length
      · skip
        skip
        have cm : wr.cell? ⟨b, off + j, none⟩ = some (.int .i64 (xs.getD j 0)) := by rw [Hk.out.cell hb0 (by rw [HK.out]; exact hb0), Hc.out j hlt]
        generalize xs.getD j 0 = y at cm
        by_cases hy : y = 1
        · subst hy
          go_wp2_with fail
          go_roundw
          case rel => exact ⟨j + 1, c, by go_num, rfl, by omega, by omega, by omega, ha, Hk.out⟩
          case measure => simp [intOf]; omega
        · have hy1 : (y == 1) = false := by simpa using hy
          have Hy := Lib.hid hy
          clear hy
          have H := Lib.hid (publish_late (from_ := y) (root := 0) Hy.out (by omega) ha)
          clear ha
          go_wp2_with fail
          refine H.out.mono ?_
          clear H
          rintro e w6 ⟨rfl, ha, hk⟩
          replace Hk := Lib.hid (Hk.out.trans hk)
          clear hk
          have H := Lib.hid (fails_is ha)
          go_wp2_with fail
          refine H.out.mono ?_
          clear H
          rintro e w' ⟨rfl, rfl⟩
          have H := Lib.hid (number_is ha)
          clear ha
          go_wp2_with fail
          refine H.out.mono ?_
          clear H
          rintro e w7 ⟨rfl, ha, hk⟩
          replace Hk := Lib.hid (Hk.out.trans (Kept.of_below hk _))
          clear hk
          have H := Lib.hid (ccount_is (c := 1) 1 rfl ha f1)
          go_wp2_with fail
          refine H.out.mono ?_
          clear H
          rintro e w' ⟨rfl, rfl⟩
          go_wp2_with fail
          go_roundw
          case rel => exact ⟨j + 1, c + 1, by go_num, rfl, by omega, by omega, by omega, ha, Hk.out⟩
          case measure => simp [intOf]; omega
      · obtain rfl : j = xs.length := by omega
        have H := Lib.hid (look_is ha)
        clear ha
        go_wp2_with fail
        refine H.out.mono ?_
        clear H
        rintro e w6 ⟨rfl, ha, hk⟩
        replace Hk := Lib.hid (Hk.out.trans (Kept.of_below hk _))
        clear hk
        go_wp2_with fail
        go_ret
        exact ⟨rfl, Hk.out.below fun b hb => by rw [HK.out]; exact hb⟩

set_option maxRecDepth 100000 in
theorem lifted (os : Os) (started : os.Started) (H : Type) (enc : TypeId × Value → H) :
    ReturnsInHanded {} Try.checked os 8 .any (Rows.cellFailsSpec.pre6 enc Try.prog Try.f8 Rows.cellFailsRow.domain false) (Rows.cellFailsSpec.post enc Try.prog Try.f8 false true false false) := by
  refine returnsInHanded_of_change (C := Try.checked) own_ started (by kernel_rfl) Try.func8
    (ChangeSpec.witness6 (enc := enc) (C := Try.checked) false ⟨#[], #[.slice none 0 0], []⟩ 8 (by kernel_rfl) (by kernel_rfl) (by kernel_rfl) (by kernel_rfl)) ?_
  intro W base args ds gs before hval0 hW _ _
  have hval : ∀ (j : Nat) t v, Try.f8.params[j]? = some t → args[j]? = some v → Value.okWide Try.prog W .any base t v := hval0
  have hW' := hW
  obtain ⟨p, q, hA0, hV, rfl, hfz, hnd⟩ := hW
  have hA : DataW.TrodAll enc Try.prog W 0 (fun _ => true) true Try.f8.params.toList args.toList ds p := hA0
  rw [Try.params8] at hA hval
  obtain ⟨v0, vs0, d0, ds0, p0, q0, hargs, rfl, rfl, h0, r0⟩ := trodAll_cons hA
  obtain ⟨rfl, rfl, rfl⟩ := trodAll_nil r0
  obtain rfl : args = #[v0] := by cases args; simp_all
  obtain ⟨x0, hx0⟩ := ints_arg (hval 0 40 v0 rfl rfl) h0
  clear hA0 hval0
  refine (walk v0 x0 W hx0).mono fun e W' ⟨he, hg⟩ => ?_
  subst he
  exact ⟨_, rfl, law_post laid_ (by kernel_rfl) rfl hW' hg rfl Try.underlying4 ⟨rfl, rfl, rfl⟩⟩

theorem over : Rows.cellFailsRow.holds Try.pinned (OpenSpec.ofChange Rows.cellFailsSpec) :=
  OpenClaim.holds_of_wide 8 Try.f8 rfl rfl rfl rfl rfl rfl rfl ⟨rfl, rfl, rfl, rfl, rfl⟩ rfl rfl rfl rfl rfl (by kernel_rfl) Try.func8 (by kernel_rfl)
    (of_decide_eq_true (by kernel_rfl)) (by unfold Func.isWrapper; first | (rw [if_pos (by decide +kernel)]; kernel_rfl) | (rw [if_neg (by decide +kernel)]; exact ⟨rfl, rfl⟩))
    (fun os started H enc _ => lifted os started H enc)

theorem proved : Rows.CellFailsSaid :=
  over
#print axioms proved
end Go.Proofs.Ytajkhkgakafgkaa.cellFails
