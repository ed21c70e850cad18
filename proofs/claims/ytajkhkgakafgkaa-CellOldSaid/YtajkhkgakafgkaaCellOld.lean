/- CellOld holds: what one read stays as it was, though others published; who comes with an old number is refused. No condition. -/
import Derived.Test.YtajkhkgakafgkaaC2
import Derived.Test.YtajkhkgakafgkaaLaw
namespace Go.Proofs.Ytajkhkgakafgkaa.cellOld
open Go.ChangeShapes Go.WideShapes Go.ChangeAt Go.RowKit
set_option linter.unusedVariables false

def s1 : Ar := ((Ar.new 30).make ⟨6, 0, 0, 0, 0, 77, 0⟩).1
def s2 : Ar := (s1.keep 1).1
def s3 : Ar := (s2.drop 1).1
theorem o1 : s1.Ok 4 := ok_make (ok_new (by decide) (by decide)) _
theorem o2 : s2.Ok 5 := ok_keep o1 1
theorem o3 : s3.Ok 5 := ok_drop o2 1
theorem f1 : s1.Fit := o1.fit (by decide)
theorem f2 : s2.Fit := o2.fit (by decide)
theorem f3 : s3.Fit := o3.fit (by decide)

/-- At the loop's head. -/
def At (K : Nat → Prop) (q p k : Nat) (W : World) : Prop := (k = 1 ∧ Cel W K q p s2 1 1 0) ∨ (2 ≤ k ∧ Cel W K q p s3 0 k 0)
set_option maxHeartbeats 2000000 in
theorem walk (n : Int) (w0 : (Lit.int .i64 n).wf = true) (from_ : Int) (w1 : (Lit.int .i64 from_).wf = true) (w : World) :
    Calls Try.prog 10 #[.int .i64 n, .int .i64 from_] w fun e w' => e = .returned (.bool true) ∧ Below w.heap.size w w' := by
  have HA := Lib.hid alive17
  obtain ⟨K, hK⟩ : ∃ K : Nat → Prop, K = fun b => b < w.heap.size := ⟨_, rfl⟩
  have HK := Lib.hid hK
  clear hK
  by_cases h1 : n < 1
  · skip
    go_enter Try.func10, Try.ntmps10
    go_wp2_with fail
    refine (HA.out w).mono ?_
    rintro e w1 ⟨rfl, hb⟩
    go_wp2_with fail
    go_ret
    exact ⟨rfl, hb⟩
  by_cases h2 : 20 < n
  · skip
    go_enter Try.func10, Try.ntmps10
    go_wp2_with fail
    refine (HA.out w).mono ?_
    rintro e w1 ⟨rfl, hb⟩
    go_wp2_with fail
    go_ret
    exact ⟨rfl, hb⟩
  obtain ⟨N, rfl⟩ := Int.eq_ofNat_of_zero_le (show 0 ≤ n by omega)
  go_enter Try.func10, Try.ntmps10
  go_wp2_with fail
  refine (HA.out w).mono ?_
  rintro e w1 ⟨rfl, hb⟩
  have Hk := Lib.hid (Kept.of_below hb K)
  clear hb
  go_wp2_with fail
  refine (new_yes 30 _ (by decide) (by decide)).mono ?_
  rintro e w2 ⟨p, rfl, hb, ha⟩
  replace ha := ha K (fun b h => by rw [HK.out] at h; have := Hk.out.size; omega)
  replace Hk := Lib.hid (Hk.out.trans (Kept.of_below hb K))
  clear hb
  have H := Lib.hid (cnew_is ha)
  clear ha
  go_wp2_with fail
  refine H.out.mono ?_
  clear H
  rintro e w3 ⟨q, rfl, ha, hb⟩
  replace Hk := Lib.hid (Hk.out.trans (Kept.of_below hb K))
  clear hb
  have H := Lib.hid (cmake_is (s' := s1) (h := 1) (e := 0) ⟨6, 0, 0, 0, 0, 77, 0⟩ rfl ha (ok_new (by decide) (by decide)) (by decide))
  clear ha
  go_wp2_with fail
  refine H.out.mono ?_
  clear H
  rintro e w4 ⟨rfl, ha, hk⟩
  replace Hk := Lib.hid (Hk.out.trans hk)
  clear hk
  have H := Lib.hid (publish_now (s' := s1) (e := 9) (root := 1) rfl f1 (by decide) ha)
  clear ha
  go_wp2_with fail
  refine H.out.mono ?_
  clear H
  rintro e w5 ⟨rfl, ha, hk⟩
  replace Hk := Lib.hid (Hk.out.trans hk)
  clear hk
  have H := Lib.hid (read_some (s' := s2) (e := 0) (by decide) rfl f1 ha)
  clear ha
  go_wp2_with fail
  refine H.out.mono ?_
  clear H
  rintro e w6 ⟨rfl, ha, hk⟩
  replace Hk := Lib.hid (Hk.out.trans hk)
  clear hk
  go_wp2_with fail
  go_loopw [11] (fun i W => ∃ j : Nat, i = .int .i64 j ∧ 1 ≤ j ∧ j ≤ N + 1 ∧ At K q p j W ∧ Kept K w W) (fun i _ => N + 1 - (intOf i).toNat)
  case atStart => exact ⟨1, rfl, by omega, by omega, .inl ⟨rfl, ha⟩, Hk.out⟩
  case round =>
    obtain ⟨j, rfl, j1, j2, hat, hk⟩ := hrel
    replace Hk := Lib.hid hk
    clear hk ha
    by_cases hlt : j ≤ N
    · rcases hat with ⟨rfl, ha⟩ | ⟨j3, ha⟩
      · skip
        have H := Lib.hid (publish_now (s' := s3) (e := 0) (root := 0) rfl f2 (by decide) ha)
        clear ha
        go_wp2_with fail
        refine H.out.mono ?_
        clear H
        rintro e w7 ⟨rfl, ha, hk⟩
        replace Hk := Lib.hid (Hk.out.trans hk)
        clear hk
        have H := Lib.hid (cwork_is (s' := s3) (j := 0) (m := 0) 3 rfl rfl ha o3 (by decide) (by decide))
        clear ha
        go_wp2_with fail
        refine H.out.mono ?_
        clear H
        rintro e w8 ⟨rfl, ha, hk⟩
        replace Hk := Lib.hid (Hk.out.trans hk)
        clear hk
        go_wp2_with fail
        go_roundw
        case rel => exact ⟨2, rfl, by omega, by omega, .inr ⟨by omega, ha⟩, Hk.out⟩
        case measure => simp [intOf]; omega
      · skip
        have H := Lib.hid (publish_now (s' := s3) (e := 9) (root := 0) rfl f3 (by omega) ha)
        clear ha
        go_wp2_with fail
        refine H.out.mono ?_
        clear H
        rintro e w7 ⟨rfl, ha, hk⟩
        replace Hk := Lib.hid (Hk.out.trans hk)
        clear hk
        have H := Lib.hid (cwork_is (s' := s3) (j := 0) (m := 0) 3 rfl rfl ha o3 (by decide) (by decide))
        clear ha
        go_wp2_with fail
        refine H.out.mono ?_
        clear H
        rintro e w8 ⟨rfl, ha, hk⟩
        replace Hk := Lib.hid (Hk.out.trans hk)
        clear hk
        go_wp2_with fail
        go_roundw
        case rel => exact ⟨j + 1, by go_num, by omega, by omega, .inr ⟨by omega, ha⟩, Hk.out⟩
        case measure => simp [intOf]; omega
    · obtain rfl : j = N + 1 := by omega
      rcases hat with ⟨h, _⟩ | ⟨_, ha⟩
      · omega
      · skip
        have H := Lib.hid (cget_is (x := ⟨6, 0, 0, 0, 0, 77, 0⟩) (b := true) 1 rfl ha f3)
        clear ha
        go_wp2_with fail
        refine H.out.mono ?_
        clear H
        rintro e w7 ⟨rfl, ha, hk⟩
        replace Hk := Lib.hid (Hk.out.trans (Kept.of_below hk _))
        clear hk
        have hx := heap_alloc_new w7 (.cells #[.int .i64 6, .int .i64 0, .int .i64 0, .int .i64 0, .int .i64 0, .int .u64 77, .int .u64 0] 31)
        replace ha := ha.allocK (.cells #[.int .i64 6, .int .i64 0, .int .i64 0, .int .i64 0, .int .i64 0, .int .u64 77, .int .u64 0] 31)
        replace Hk := Lib.hid (Hk.out.alloc (.cells #[.int .i64 6, .int .i64 0, .int .i64 0, .int .i64 0, .int .i64 0, .int .u64 77, .int .u64 0] 31))
        have Hx := Lib.hid hx
        clear hx
        rw [show ((N + 1 : Nat) : Int) = (N : Int) + 1 by omega] at ha
        by_cases hf : from_ = (N : Int) + 1
        · subst hf
          have H := Lib.hid (publish_now (s' := s3) (e := 9) (root := 0) rfl f3 (by omega) ha)
          clear ha
          go_wp2_with fail
          refine H.out.mono ?_
          clear H
          rintro e w8 ⟨rfl, ha, hk⟩
          have cx : w8.cell? ⟨w7.heap.size, 5, none⟩ = some (.int .u64 77) := by
            rw [hk.cell (by simp) (.inr rfl), cell_of_row _ _ _ _ _ _ Hx.out]; rfl
          replace Hk := Lib.hid (Hk.out.trans hk.less)
          clear hk
          have H := Lib.hid (ccount_is (c := 1) 1 rfl ha f3)
          go_wp2_with fail
          refine H.out.mono ?_
          clear H
          rintro e w' ⟨rfl, rfl⟩
          go_wp2_with fail
          go_ret
          exact ⟨rfl, Hk.out.below fun b hb => by rw [HK.out]; exact hb⟩
        · have g1 : (from_ == (N : Int) + 1) = false := by simpa using hf
          have g2 : ((N : Int) + 1 == from_) = false := by simp; omega
          have Hf := Lib.hid hf
          clear hf
          have H := Lib.hid (publish_late (from_ := from_) (root := 0) Hf.out (by decide) ha)
          clear ha
          go_wp2_with fail
          refine H.out.mono ?_
          clear H
          rintro e w8 ⟨rfl, ha, hk⟩
          have cx : w8.cell? ⟨w7.heap.size, 5, none⟩ = some (.int .u64 77) := by
            rw [hk.cell (by simp) (.inr rfl), cell_of_row _ _ _ _ _ _ Hx.out]; rfl
          replace Hk := Lib.hid (Hk.out.trans hk.less)
          clear hk
          have H := Lib.hid (ccount_is (c := 1) 1 rfl ha f3)
          go_wp2_with fail
          refine H.out.mono ?_
          clear H
          rintro e w' ⟨rfl, rfl⟩
          have H := Lib.hid (fails_is ha)
          go_wp2_with fail
          refine H.out.mono ?_
          clear H
          rintro e w' ⟨rfl, rfl⟩
          go_wp2_with fail
          go_ret
          exact ⟨rfl, Hk.out.below fun b hb => by rw [HK.out]; exact hb⟩

set_option maxRecDepth 100000 in
theorem lifted (os : Os) (started : os.Started) (H : Type) (enc : TypeId × Value → H) :
    ReturnsInHanded {} Try.checked os 10 .any (Rows.cellOldSpec.pre6 enc Try.prog Try.f10 Rows.cellOldRow.domain false) (Rows.cellOldSpec.post enc Try.prog Try.f10 false true false false) := by
  refine returnsInHanded_of_change (C := Try.checked) own_ started (by kernel_rfl) Try.func10
    (ChangeSpec.witness6 (enc := enc) (C := Try.checked) false ⟨#[], #[.int .i64 0, .int .i64 0], []⟩ 8 (by kernel_rfl) (by kernel_rfl) (by kernel_rfl) (by kernel_rfl)) ?_
  intro W base args ds gs before hval0 hW _ _
  have hval : ∀ (j : Nat) t v, Try.f10.params[j]? = some t → args[j]? = some v → Value.okWide Try.prog W .any base t v := hval0
  have hW' := hW
  obtain ⟨p, q, hA0, hV, rfl, hfz, hnd⟩ := hW
  have hA : DataW.TrodAll enc Try.prog W 0 (fun _ => true) true Try.f10.params.toList args.toList ds p := hA0
  rw [Try.params10] at hA hval
  obtain ⟨v0, vs0, d0, ds0, p0, q0, hargs, rfl, rfl, h0, r0⟩ := trodAll_cons hA
  obtain ⟨v1, vs1, d1, ds1, p1, q1, rfl, rfl, rfl, h1, r1⟩ := trodAll_cons r0
  obtain ⟨rfl, rfl, rfl⟩ := trodAll_nil r1
  obtain rfl : args = #[v0, v1] := by cases args; simp_all
  obtain ⟨a0, rfl, rfl, rfl, w0⟩ := open_int Try.underlying3 (hval 0 3 v0 rfl rfl) h0
  obtain ⟨a1, rfl, rfl, rfl, w1⟩ := open_int Try.underlying3 (hval 1 3 v1 rfl rfl) h1
  clear hA0 hval0
  refine (walk a0 w0 a1 w1 W).mono fun e W' ⟨he, hg⟩ => ?_
  subst he
  exact ⟨_, rfl, law_post laid_ (by kernel_rfl) rfl hW' hg rfl Try.underlying4 ⟨rfl, rfl, rfl⟩⟩

theorem over : Rows.cellOldRow.holds Try.pinned (OpenSpec.ofChange Rows.cellOldSpec) :=
  OpenClaim.holds_of_wide 10 Try.f10 rfl rfl rfl rfl rfl rfl rfl ⟨rfl, rfl, rfl, rfl, rfl⟩ rfl rfl rfl rfl rfl (by kernel_rfl) Try.func10 (by kernel_rfl)
    (of_decide_eq_true (by kernel_rfl)) (by unfold Func.isWrapper; first | (rw [if_pos (by decide +kernel)]; kernel_rfl) | (rw [if_neg (by decide +kernel)]; exact ⟨rfl, rfl⟩))
    (fun os started H enc _ => lifted os started H enc)

theorem proved : Rows.CellOldSaid :=
  over
#print axioms proved
end Go.Proofs.Ytajkhkgakafgkaa.cellOld
