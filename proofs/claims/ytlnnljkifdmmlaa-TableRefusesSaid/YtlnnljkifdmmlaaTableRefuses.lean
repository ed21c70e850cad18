/- TableRefuses holds: a document that may not be, or is there already, is refused; so is taking out one that is not there; the table stays. No condition. -/
import Derived.Test.YtlnnljkifdmmlaaT1
namespace Go.Proofs.Ytlnnljkifdmmlaa.tableRefuses
open Go.ChangeShapes Go.WideShapes Go.ChangeAt Go.RowKit
set_option linter.unusedVariables false

theorem one_other {o id : Int} (c : Int) (h : id ≠ o) : Placed [(o, c)] id 0 false := .inr ⟨rfl, rfl, fun i hi e => by
  have : i = 0 := by simp at hi; omega
  subst this
  exact h (Eq.symm e)⟩
theorem one_same (o c : Int) : Placed [(o, c)] o 0 true := .inl ⟨rfl, Nat.one_pos, rfl, fun i hi => absurd hi (Nat.not_lt_zero _)⟩
set_option maxRecDepth 100000 in
set_option maxHeartbeats 8000000 in
theorem walk (id : Int) (w0 : (Lit.int .i64 id).wf = true) (len : Int) (w1' : (Lit.int .i64 len).wf = true) (other : Int) (w2' : (Lit.int .i64 other).wf = true) (w : World) :
    Calls Try.prog 10 #[.int .i64 id, .int .i64 len, .int .i64 other] w fun e w' => e = .returned (.bool true) ∧ Below w.heap.size w w' := by
  have HA := Lib.hid alive11
  by_cases h1 : other < 1
  · go_enter Try.func10, Try.ntmps10
    go_wp2_with fail
    refine (HA.out _).mono ?_
    rintro e w1 ⟨rfl, hb⟩
    go_wp2_with fail
    go_ret
    exact ⟨rfl, hb⟩
  have i1 := (bounds_i64 w0).2
  have i2 := (bounds_i64 w2').2
  obtain ⟨K, hK⟩ : ∃ K : Nat → Prop, K = fun b => b < w.heap.size := ⟨_, rfl⟩
  have HK := Lib.hid hK
  clear hK
  go_enter Try.func10, Try.ntmps10
  go_wp2_with fail
  refine (HA.out _).mono ?_
  rintro e w1 ⟨rfl, hb⟩
  have Hk := Lib.hid (Kept.of_below hb K)
  clear hb
  go_wp2_with fail
  refine (new_yes 50 _ (by omega) (by omega)).mono ?_
  rintro e w2 ⟨p, rfl, hb, ha⟩
  replace ha := ha K (fun b h => by rw [HK.out] at h; have := Hk.out.size; omega)
  replace Hk := Lib.hid (Hk.out.trans (Kept.of_below hb K))
  clear hb
  have H := Lib.hid (add_is (len := 3) (placed_nil other) (by omega) i2 (by decide) (by decide) (by decide) (good_new (n := 50) (by decide) (by decide)) (by decide) (Lh.nil _) (.inl rfl) docs_nil (by decide) ha)
  clear ha
  go_wp2_with fail
  refine H.out.mono ?_
  clear H
  rintro e w2 ⟨h, s1, rfl, ha, hk, g, x, hl, hb⟩
  replace Hk := Lib.hid (Hk.out.trans hk)
  have hb1 : s1.busy ≤ 4 := hb
  have hn1 : s1.n = 50 := x.n
  have Hd : Hid (Docs ([] ++ [(other, (3 : Int))])) := docs_snoc docs_nil (by decide) ⟨by omega, i2⟩ (by decide)
  have G1 := Lib.hid g
  have L1 := Lib.hid hl
  have F1 := Lib.hid (show Firm s1 [h] h from .inl (by simp))
  have A1 := Lib.hid ha
  have N1 := Lib.hid (And.intro hb1 hn1)
  clear ha hk g x hl hb hb1 hn1
  by_cases hid : id = other
  · have hid1 : (id == other) = true := by simpa using hid
    have hid2 : (id != other) = false := by simpa using hid
    have Hid2 := Lib.hid hid
    clear hid
    have H := Lib.hid (add_arg (len := len) (id := id) (by rw [Hid2.out]; exact one_same other 3) (.inr (.inl rfl)) G1.out (by omega) L1.out (.inr F1.out) Hd.out A1.out)
    have h4 : 1 ≤ id := by have := Hid2.out; omega
    go_wp2_with fail
    refine H.out.mono ?_
    clear H
    rintro e w3 ⟨rfl, k3⟩
    have A3 := Lib.hid (A1.out.below k3)
    replace Hk := Lib.hid (Hk.out.trans (Kept.of_below k3 K))
    clear k3
    have H := Lib.hid (cut_is (id := id) (by rw [Hid2.out]; exact one_same other 3) G1.out (by omega) L1.out F1.out Hd.out (by rw [N1.out.2]; have := N1.out.1; show s1.busy + 7 ≤ 50; omega) A3.out)
    by_cases c3 : len < 0
    all_goals
      go_wp2_with fail
      refine H.out.mono ?_
      rintro e w4 ⟨z, s2, rfl, a4, k4, g4, x4, l4, b4⟩
      have A4 := Lib.hid a4
      have G4 := Lib.hid g4
      have L4 := Lib.hid (L1.out.ext x4)
      have F4 := Lib.hid (F1.out.ext x4 (L' := [z, h]) fun y hy => List.mem_cons_of_mem _ hy)
      replace Hk := Lib.hid (Hk.out.trans k4)
      clear a4 k4 g4 x4 l4 b4 H
      have H5 := fun W hb => Lib.hid (tlen_is (w := W) (n := 1) rfl G4.out (by omega) L4.out (.inr F4.out) (by decide) (A4.out.below hb))
      have H6 := fun W hb => Lib.hid (total_is (w := W) (t := 4) rfl G4.out (by omega) L4.out (.inr F4.out) Hd.out (A4.out.below hb))
      have B0 := Lib.hid (Below.refl w4.heap.size w4)
      go_wp2_with fail
      refine (H5 _ B0.out).out.mono ?_
      clear H5
      rintro e wy ⟨rfl, _, ky⟩
      have By := Lib.hid ky
      clear ky
      go_wp2_with fail
      refine (H6 _ By.out).out.mono ?_
      rintro e wz ⟨rfl, kz⟩
      go_wp2_with fail
      go_ret
      exact ⟨rfl, (Hk.out.below fun b hb => by rw [HK.out]; exact hb).trans ((By.out.trans (kz.mono By.out.size)).mono Hk.out.size)⟩
  have hid1 : (id == other) = false := by simpa using hid
  have hid2 : (id != other) = true := by simpa using hid
  have Hne := Lib.hid hid
  clear hid
  by_cases c1 : id < 1
  · skip
    have H := Lib.hid (add_arg (len := len) (one_other 3 Hne.out) (.inl c1) G1.out (by omega) L1.out (.inr F1.out) Hd.out A1.out)
    go_wp2_with fail
    refine H.out.mono ?_
    clear H
    rintro e w3 ⟨rfl, k3⟩
    have A3 := Lib.hid (A1.out.below k3)
    replace Hk := Lib.hid (Hk.out.trans (Kept.of_below k3 K))
    clear k3
    have H := Lib.hid (cut_none (one_other 3 Hne.out) G1.out (by omega) L1.out (.inr F1.out) Hd.out A3.out)
    go_wp2_with fail
    refine H.out.mono ?_
    clear H
    rintro e wc ⟨rfl, kc⟩
    have A5 := Lib.hid (A3.out.below kc)
    replace Hk := Lib.hid (Hk.out.trans (Kept.of_below kc K))
    clear kc
    have H5 := fun W hb => Lib.hid (tlen_is (w := W) (n := 1) rfl G1.out (by omega) L1.out (.inr F1.out) (by decide) (A5.out.below hb))
    have H6 := fun W hb => Lib.hid (total_is (w := W) (t := 4) rfl G1.out (by omega) L1.out (.inr F1.out) Hd.out (A5.out.below hb))
    have B0 := Lib.hid (Below.refl wc.heap.size wc)
    go_wp2_with fail
    refine (H5 _ B0.out).out.mono ?_
    clear H5
    rintro e wy ⟨rfl, _, ky⟩
    have By := Lib.hid ky
    clear ky
    go_wp2_with fail
    refine (H6 _ By.out).out.mono ?_
    rintro e wz ⟨rfl, kz⟩
    go_wp2_with fail
    go_ret
    exact ⟨rfl, (Hk.out.below fun b hb => by rw [HK.out]; exact hb).trans ((By.out.trans (kz.mono By.out.size)).mono Hk.out.size)⟩
  by_cases c2 : len < 0
  · skip
    have H := Lib.hid (add_arg (len := len) (one_other 3 Hne.out) (.inr (.inr (.inl c2))) G1.out (by omega) L1.out (.inr F1.out) Hd.out A1.out)
    go_wp2_with fail
    refine H.out.mono ?_
    clear H
    rintro e w3 ⟨rfl, k3⟩
    have A3 := Lib.hid (A1.out.below k3)
    replace Hk := Lib.hid (Hk.out.trans (Kept.of_below k3 K))
    clear k3
    have H := Lib.hid (cut_none (one_other 3 Hne.out) G1.out (by omega) L1.out (.inr F1.out) Hd.out A3.out)
    go_wp2_with fail
    refine H.out.mono ?_
    clear H
    rintro e wc ⟨rfl, kc⟩
    have A5 := Lib.hid (A3.out.below kc)
    replace Hk := Lib.hid (Hk.out.trans (Kept.of_below kc K))
    clear kc
    have H5 := fun W hb => Lib.hid (tlen_is (w := W) (n := 1) rfl G1.out (by omega) L1.out (.inr F1.out) (by decide) (A5.out.below hb))
    have H6 := fun W hb => Lib.hid (total_is (w := W) (t := 4) rfl G1.out (by omega) L1.out (.inr F1.out) Hd.out (A5.out.below hb))
    have B0 := Lib.hid (Below.refl wc.heap.size wc)
    go_wp2_with fail
    refine (H5 _ B0.out).out.mono ?_
    clear H5
    rintro e wy ⟨rfl, _, ky⟩
    have By := Lib.hid ky
    clear ky
    go_wp2_with fail
    refine (H6 _ By.out).out.mono ?_
    rintro e wz ⟨rfl, kz⟩
    go_wp2_with fail
    go_ret
    exact ⟨rfl, (Hk.out.below fun b hb => by rw [HK.out]; exact hb).trans ((By.out.trans (kz.mono By.out.size)).mono Hk.out.size)⟩
  by_cases c3 : 40 < len
  · have c3' : decide (len ≤ 40) = false := decide_eq_false (by omega)
    have H := Lib.hid (add_arg (len := len) (one_other 3 Hne.out) (.inr (.inr (.inr c3))) G1.out (by omega) L1.out (.inr F1.out) Hd.out A1.out)
    go_wp2_with fail
    refine H.out.mono ?_
    clear H
    rintro e w3 ⟨rfl, k3⟩
    have A3 := Lib.hid (A1.out.below k3)
    replace Hk := Lib.hid (Hk.out.trans (Kept.of_below k3 K))
    clear k3
    have H := Lib.hid (cut_none (one_other 3 Hne.out) G1.out (by omega) L1.out (.inr F1.out) Hd.out A3.out)
    go_wp2_with fail
    refine H.out.mono ?_
    clear H
    rintro e wc ⟨rfl, kc⟩
    have A5 := Lib.hid (A3.out.below kc)
    replace Hk := Lib.hid (Hk.out.trans (Kept.of_below kc K))
    clear kc
    have H5 := fun W hb => Lib.hid (tlen_is (w := W) (n := 1) rfl G1.out (by omega) L1.out (.inr F1.out) (by decide) (A5.out.below hb))
    have H6 := fun W hb => Lib.hid (total_is (w := W) (t := 4) rfl G1.out (by omega) L1.out (.inr F1.out) Hd.out (A5.out.below hb))
    have B0 := Lib.hid (Below.refl wc.heap.size wc)
    go_wp2_with fail
    refine (H5 _ B0.out).out.mono ?_
    clear H5
    rintro e wy ⟨rfl, _, ky⟩
    have By := Lib.hid ky
    clear ky
    go_wp2_with fail
    refine (H6 _ By.out).out.mono ?_
    rintro e wz ⟨rfl, kz⟩
    go_wp2_with fail
    go_ret
    exact ⟨rfl, (Hk.out.below fun b hb => by rw [HK.out]; exact hb).trans ((By.out.trans (kz.mono By.out.size)).mono Hk.out.size)⟩
  have H := Lib.hid (add_is (len := len) (one_other 3 Hne.out) (by omega) i1 (by omega) (by omega) (show 1 < 10 by omega) G1.out (by omega) L1.out (.inr F1.out) Hd.out (by rw [N1.out.2]; have := N1.out.1; show s1.busy + 7 ≤ 50; omega) A1.out)
  go_wp2_with fail
  refine H.out.mono ?_
  clear H
  rintro e w4 ⟨z, s2, rfl, a4, k4, g4, x4, l4, b4⟩
  have A4 := Lib.hid a4
  have G4 := Lib.hid g4
  have L4 := Lib.hid (L1.out.ext x4)
  have F4 := Lib.hid (F1.out.ext x4 (L' := [z, h]) fun y hy => List.mem_cons_of_mem _ hy)
  replace Hk := Lib.hid (Hk.out.trans k4)
  clear a4 k4 g4 x4 l4 b4
  have H := Lib.hid (cut_none (one_other 3 Hne.out) G4.out (by omega) L4.out (.inr F4.out) Hd.out A4.out)
  go_wp2_with fail
  refine H.out.mono ?_
  clear H
  rintro e wc ⟨rfl, kc⟩
  have A5 := Lib.hid (A4.out.below kc)
  replace Hk := Lib.hid (Hk.out.trans (Kept.of_below kc K))
  clear kc
  have H5 := fun W hb => Lib.hid (tlen_is (w := W) (n := 1) rfl G4.out (by omega) L4.out (.inr F4.out) (by decide) (A5.out.below hb))
  have H6 := fun W hb => Lib.hid (total_is (w := W) (t := 4) rfl G4.out (by omega) L4.out (.inr F4.out) Hd.out (A5.out.below hb))
  have B0 := Lib.hid (Below.refl wc.heap.size wc)
  go_wp2_with fail
  refine (H5 _ B0.out).out.mono ?_
  clear H5
  rintro e wy ⟨rfl, _, ky⟩
  have By := Lib.hid ky
  clear ky
  go_wp2_with fail
  refine (H6 _ By.out).out.mono ?_
  rintro e wz ⟨rfl, kz⟩
  go_wp2_with fail
  go_ret
  exact ⟨rfl, (Hk.out.below fun b hb => by rw [HK.out]; exact hb).trans ((By.out.trans (kz.mono By.out.size)).mono Hk.out.size)⟩

set_option maxRecDepth 100000 in
theorem lifted (os : Os) (started : os.Started) (H : Type) (enc : TypeId × Value → H) :
    ReturnsInHanded {} Try.checked os 10 .any (Rows.tableRefusesSpec.pre6 enc Try.prog Try.f10 Rows.tableRefusesRow.domain false) (Rows.tableRefusesSpec.post enc Try.prog Try.f10 false true false false) := by
  refine returnsInHanded_of_change (C := Try.checked) own_ started (by kernel_rfl) Try.func10
    (ChangeSpec.witness6 (enc := enc) (C := Try.checked) false ⟨#[], #[.int .i64 0, .int .i64 0, .int .i64 0], []⟩ 8 (by kernel_rfl) (by kernel_rfl) (by kernel_rfl) (by kernel_rfl)) ?_
  intro W base args ds gs before hval0 hW _ _
  have hval : ∀ (j : Nat) t v, Try.f10.params[j]? = some t → args[j]? = some v → Value.okWide Try.prog W .any base t v := hval0
  have hW' := hW
  obtain ⟨p, q, hA0, hV, rfl, hfz, hnd⟩ := hW
  have hA : DataW.TrodAll enc Try.prog W 0 (fun _ => true) true Try.f10.params.toList args.toList ds p := hA0
  rw [Try.params10] at hA hval
  obtain ⟨v0, vs0, d0, ds0, p0, q0, hargs, rfl, rfl, h0, r0⟩ := trodAll_cons hA
  obtain ⟨v1, vs1, d1, ds1, p1, q1, rfl, rfl, rfl, h1, r1⟩ := trodAll_cons r0
  obtain ⟨v2, vs2, d2, ds2, p2, q2, rfl, rfl, rfl, h2, r2⟩ := trodAll_cons r1
  obtain ⟨rfl, rfl, rfl⟩ := trodAll_nil r2
  obtain rfl : args = #[v0, v1, v2] := by cases args; simp_all
  obtain ⟨a0, rfl, rfl, rfl, w0⟩ := open_int Try.underlying3 (hval 0 3 v0 rfl rfl) h0
  obtain ⟨a1, rfl, rfl, rfl, w1⟩ := open_int Try.underlying3 (hval 1 3 v1 rfl rfl) h1
  obtain ⟨a2, rfl, rfl, rfl, w2⟩ := open_int Try.underlying3 (hval 2 3 v2 rfl rfl) h2
  clear hA0 hval0
  refine (walk a0 w0 a1 w1 a2 w2 W ).mono fun e W' ⟨he, hg⟩ => ?_
  subst he
  exact ⟨_, rfl, law_post laid_ (by kernel_rfl) rfl hW' hg rfl Try.underlying4 ⟨rfl, rfl, rfl⟩⟩

theorem over : Rows.tableRefusesRow.holds Try.pinned (OpenSpec.ofChange Rows.tableRefusesSpec) :=
  OpenClaim.holds_of_wide 10 Try.f10 rfl rfl rfl rfl rfl rfl rfl ⟨rfl, rfl, rfl, rfl, rfl⟩ rfl rfl rfl rfl rfl (by kernel_rfl) Try.func10 (by kernel_rfl)
    (of_decide_eq_true (by kernel_rfl)) (by unfold Func.isWrapper; first | (rw [if_pos (by decide +kernel)]; kernel_rfl) | (rw [if_neg (by decide +kernel)]; exact ⟨rfl, rfl⟩))
    (fun os started H enc _ => lifted os started H enc)

theorem proved : Rows.TableRefusesSaid :=
  over
#print axioms proved
end Go.Proofs.Ytlnnljkifdmmlaa.tableRefuses
