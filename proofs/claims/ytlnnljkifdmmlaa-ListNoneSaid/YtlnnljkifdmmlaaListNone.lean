/- ListNone holds: of what is no list nothing is told; what may not be put in is refused; with no arena nothing is made. No condition. -/
import Derived.Test.YtlnnljkifdmmlaaLn
namespace Go.Proofs.Ytlnnljkifdmmlaa.listNone
open Go.ChangeShapes Go.WideShapes Go.ChangeAt Go.RowKit
set_option linter.unusedVariables false

def nn1 : Ar := ((Ar.new 9).make ⟨1, 0, 0, 0, 0, 1, 1⟩).1
theorem nn1_good : Good nn1 4 [1] := by
  obtain ⟨h, e, g, _⟩ := good_make (good_new (n := 9) (by decide) (by decide)) (x := ⟨1, 0, 0, 0, 0, 1, 1⟩) (by decide) (fun y hy => .inl (by simp [Nd.kids] at hy; exact hy)) (by decide)
  have e1 : (Ar.new 9).make ⟨1, 0, 0, 0, 0, 1, 1⟩ = (nn1, 1, 0) := rfl
  rw [e1] at e
  injection e with e e2
  injection e2 with e2 _
  rw [← e, ← e2] at g
  exact g
set_option maxRecDepth 100000 in
set_option maxHeartbeats 4000000 in
theorem walk (h : Int) (w0 : (Lit.int .i64 h).wf = true) (i : Int) (w1' : (Lit.int .i64 i).wf = true) (xa xb : Int) (wa : (Lit.int .i64 xa).wf = true) (wb : (Lit.int .i64 xb).wf = true) (w : World) :
    Calls Try.prog 5 #[.int .i64 h, .int .i64 i, .agg #[.int .i64 xa, .int .i64 xb]] w fun e w' => e = .returned (.bool true) ∧ Below w.heap.size w w' := by
  have HA := Lib.hid alive10
  have g := nn1_good
  obtain ⟨K, hK⟩ : ∃ K : Nat → Prop, K = fun b => b < w.heap.size := ⟨_, rfl⟩
  have HK := Lib.hid hK
  clear hK
  go_enter Try.func5, Try.ntmps5
  go_wp2_with fail
  have Hk := Lib.hid ((Kept.refl K w).alloc (.cells #[.int .i64 xa, .int .i64 xb] 24))
  refine (HA.out _).mono ?_
  rintro e w1 ⟨rfl, hb⟩
  replace Hk := Lib.hid (Hk.out.trans (Kept.of_below hb K))
  clear hb
  go_wp2_with fail
  refine (new_yes 9 _ (by decide) (by decide)).mono ?_
  rintro e w2 ⟨p, rfl, hb, ha⟩
  replace ha := ha K (fun b h => by rw [HK.out] at h; have := Hk.out.size; omega)
  replace Hk := Lib.hid (Hk.out.trans (Kept.of_below hb K))
  clear hb
  have H := Lib.hid (make_is (s' := nn1) (h := 1) (e := 0) ⟨1, 0, 0, 0, 0, 1, 1⟩ rfl ha (ok_new (by decide) (by decide)) (by decide))
  clear ha
  go_wp2_with fail
  refine H.out.mono ?_
  clear H
  rintro e w3 ⟨rfl, ha, hk⟩
  replace Hk := Lib.hid (Hk.out.trans hk)
  clear hk
  have Ha := Lib.hid ha
  have G := Lib.hid g
  have Fi := Lib.hid (g.ok.fit (by decide))
  clear ha g
  have H := Lib.hid (get_other (x := ⟨1, 0, 0, 0, 0, 1, 1⟩) (c := 1) 1 rfl rfl (by decide) rfl rfl Ha.out Fi.out)
  go_wp2_with fail
  refine H.out.mono ?_
  clear H
  rintro e w4 ⟨rfl, hb⟩
  have A4 := Lib.hid ((Ha.out.below hb).alloc (.cells #[.int .i64 0, .int .i64 0] 24))
  have K4 := Lib.hid ((Hk.out.trans (Kept.of_below hb K)).alloc (.cells #[.int .i64 0, .int .i64 0] 24))
  clear hb Ha Hk
  have H := Lib.hid (insert_arg (x := -1) (y := 0) (i := 0) G.out (by decide) (Lh.nil _) (.inl rfl) (by decide) (.inl (by decide)) A4.out)
  go_wp2_with fail
  refine H.out.mono ?_
  clear H
  rintro e w5 ⟨rfl, hb⟩
  have A5 := Lib.hid (A4.out.below hb)
  have K5 := Lib.hid (K4.out.trans (Kept.of_below hb K))
  clear hb A4 K4
  go_wp2_with fail
  refine (insert_no_arena _).mono ?_
  rintro e w6 ⟨rfl, hb⟩
  have A6 := Lib.hid (A5.out.below hb)
  have K6 := Lib.hid (K5.out.trans (Kept.of_below hb K))
  clear hb A5 K5
  have H := Lib.hid (delete_range (h := 0) (i := i) G.out (by decide) (Lh.nil _) (.inl rfl) (by decide) (by show i < 0 ∨ (0 : Int) ≤ i; omega) A6.out)
  go_wp2_with fail
  refine H.out.mono ?_
  clear H
  rintro e w7 ⟨rfl, hb⟩
  have A7 := Lib.hid (A6.out.below hb)
  have K7 := Lib.hid (K6.out.trans (Kept.of_below hb K))
  clear hb A6 K6
  have H := Lib.hid (set_range (h := 0) (x := 1) (y := 0) (i := i) G.out (by decide) (Lh.nil _) (.inl rfl) (by decide) (by show i < 0 ∨ (0 : Int) ≤ i; omega) (by decide) (by decide) A7.out)
  go_wp2_with fail
  refine H.out.mono ?_
  clear H
  rintro e w8 ⟨rfl, hb⟩
  have A8 := Lib.hid (A7.out.below hb)
  have K8 := Lib.hid (K7.out.trans (Kept.of_below hb K))
  clear hb A7 K7
  have H := Lib.hid (len_other (x := ⟨1, 0, 0, 0, 0, 1, 1⟩) (c := 1) 1 rfl rfl (by decide) rfl rfl A8.out Fi.out)
  go_wp2_with fail
  refine H.out.mono ?_
  clear H
  rintro e w9 ⟨rfl, ha9, hb⟩
  have A9 := Lib.hid ha9
  have K9 := Lib.hid (K8.out.trans (Kept.of_below hb K))
  clear hb A8 K8 ha9
  have H := Lib.hid (all_other (x := ⟨1, 0, 0, 0, 0, 1, 1⟩) (c := 1) 1 rfl rfl (by decide) rfl rfl A9.out Fi.out)
  go_wp2_with fail
  refine H.out.mono ?_
  clear H
  rintro e w10 ⟨rfl, hb⟩
  have K10 := Lib.hid (K9.out.trans (Kept.of_below hb K))
  clear hb A9 K9
  go_wp2_with fail
  refine (len_none _ _).mono ?_
  rintro e w11 ⟨rfl, hb⟩
  have K11 := Lib.hid (K10.out.trans (Kept.of_below hb K))
  clear hb K10
  go_wp2_with fail
  go_ret
  exact ⟨rfl, K11.out.below fun b hb => by rw [HK.out]; exact hb⟩

set_option maxRecDepth 100000 in
theorem lifted (os : Os) (started : os.Started) (H : Type) (enc : TypeId × Value → H) :
    ReturnsInHanded {} Try.checked os 5 .any (Rows.listNoneSpec.pre6 enc Try.prog Try.f5 Rows.listNoneRow.domain false) (Rows.listNoneSpec.post enc Try.prog Try.f5 false true false false) := by
  refine returnsInHanded_of_change (C := Try.checked) own_ started (by kernel_rfl) Try.func5
    (ChangeSpec.witness6 (enc := enc) (C := Try.checked) false ⟨#[], #[.int .i64 0, .int .i64 0, .agg #[.int .i64 0, .int .i64 0]], []⟩ 8 (by kernel_rfl) (by kernel_rfl) (by kernel_rfl) (by kernel_rfl)) ?_
  intro W base args ds gs before hval0 hW _ _
  have hval : ∀ (j : Nat) t v, Try.f5.params[j]? = some t → args[j]? = some v → Value.okWide Try.prog W .any base t v := hval0
  have hW' := hW
  obtain ⟨p, q, hA0, hV, rfl, hfz, hnd⟩ := hW
  have hA : DataW.TrodAll enc Try.prog W 0 (fun _ => true) true Try.f5.params.toList args.toList ds p := hA0
  rw [Try.params5] at hA hval
  obtain ⟨v0, vs0, d0, ds0, p0, q0, hargs, rfl, rfl, h0, r0⟩ := trodAll_cons hA
  obtain ⟨v1, vs1, d1, ds1, p1, q1, rfl, rfl, rfl, h1, r1⟩ := trodAll_cons r0
  obtain ⟨v2, vs2, d2, ds2, p2, q2, rfl, rfl, rfl, h2, r2⟩ := trodAll_cons r1
  obtain ⟨rfl, rfl, rfl⟩ := trodAll_nil r2
  obtain rfl : args = #[v0, v1, v2] := by cases args; simp_all
  obtain ⟨a0, rfl, rfl, rfl, w0⟩ := open_int Try.underlying3 (hval 0 3 v0 rfl rfl) h0
  obtain ⟨a1, rfl, rfl, rfl, w1⟩ := open_int Try.underlying3 (hval 1 3 v1 rfl rfl) h1
  obtain ⟨xa2, xb2, rfl, wa2, wb2⟩ := item_arg Try.underlying24 (by kernel_rfl) (hval 2 24 v2 rfl rfl) h2
  clear hA0 hval0
  refine (walk a0 w0 a1 w1 xa2 xb2 wa2 wb2 W ).mono fun e W' ⟨he, hg⟩ => ?_
  subst he
  exact ⟨_, rfl, law_post laid_ (by kernel_rfl) rfl hW' hg rfl Try.underlying4 ⟨rfl, rfl, rfl⟩⟩

theorem over : Rows.listNoneRow.holds Try.pinned (OpenSpec.ofChange Rows.listNoneSpec) :=
  OpenClaim.holds_of_wide 5 Try.f5 rfl rfl rfl rfl rfl rfl rfl ⟨rfl, rfl, rfl, rfl, rfl⟩ rfl rfl rfl rfl rfl (by kernel_rfl) Try.func5 (by kernel_rfl)
    (of_decide_eq_true (by kernel_rfl)) (by unfold Func.isWrapper; first | (rw [if_pos (by decide +kernel)]; kernel_rfl) | (rw [if_neg (by decide +kernel)]; exact ⟨rfl, rfl⟩))
    (fun os started H enc _ => lifted os started H enc)

theorem proved : Rows.ListNoneSaid :=
  over
#print axioms proved
end Go.Proofs.Ytlnnljkifdmmlaa.listNone
