/- ArenaLeast holds: the least free handle is told; what was freed comes again. No condition. -/
import Derived.Test.YtajkhkgakafgkaaA8
import Derived.Test.YtajkhkgakafgkaaPure2
import Derived.Test.YtajkhkgakafgkaaLaw
namespace Go.Proofs.Ytajkhkgakafgkaa.arenaLeast
open Go.ChangeShapes Go.WideShapes Go.ChangeAt Go.RowKit
set_option linter.unusedVariables false

/-- x is dropped. -/
def D (n i x : Nat) : Ar := { Lf n i with c := upd (Lf n i).c x 0, wt := [(x : Int)] }
/-- x is freed. -/
def E (n i x : Nat) : Ar := { Lf n i with nd := upd (Lf n i).nd x Nd.zero, c := upd (Lf n i).c x 0, u := upd (Lf n i).u x false, busy := (i : Int) - 1 }
theorem count_in_ {n i x : Nat} (h1 : 1 ≤ x) (h2 : x ≤ i) (h3 : i ≤ n) : (Lf n i).count x = 1 := by
  unfold Ar.count
  rw [if_neg (by show ¬ ((x : Int) < 1 ∨ (n : Int) < x); omega)]
  exact if_pos ⟨by simpa using h1, by simpa using h2⟩
theorem dropped {n i x : Nat} (h1 : 1 ≤ x) (h2 : x ≤ i) (h3 : i ≤ n) : (Lf n i).drop x = (D n i x, 0) := by
  unfold Ar.drop
  rw [count_in_ h1 h2 h3, if_neg (by decide)]
  unfold Ar.drop1 D
  have e : (Lf n i).c x = 1 := if_pos ⟨h1, h2⟩
  rw [show ((x : Int)).toNat = x from rfl, e]
  rfl
theorem D_free {n x : Nat} (h1 : 1 ≤ x) (h2 : x ≤ n) : (D n n x).make leaf = (D n n x, 0, 2) :=
  make_none (by decide) rfl (free_none fun j h1 h2 => decide_eq_true ⟨h1, h2⟩)
theorem D_work {n i x : Nat} (h1 : 1 ≤ x) (h2 : x ≤ i) : (D n i x).work 1 = (E n i x, 1) := by
  have e : (D n i x).free1 x [] = E n i x := by
    rw [free1_eq]
    have : ((D n i x).nd ((x : Int)).toNat).kids = [0, 0, 0, 0] := by
      have : (D n i x).nd ((x : Int)).toNat = leaf := if_pos ⟨by simpa using h1, by simpa using h2⟩
      rw [this]; rfl
    rw [this, drops_zero]
    rfl
  have h : (D n i x).work 1 = ((((D n i x).free1 x []).work 0).1, (((D n i x).free1 x []).work 0).2 + 1) := rfl
  rw [h, e]
  rfl
theorem E_make {n i x : Nat} (h1 : 1 ≤ x) (h2 : x ≤ i) (h3 : i ≤ n) : (E n i x).make leaf = ((E n i x).put x leaf, (x : Int), 0) := by
  have hf : (E n i x).free = x := by
    refine free_is h1 (by show x ≤ n; omega) (upd_same _ _ _) fun j h4 h5 => ?_
    show upd _ _ _ j = true
    rw [upd_ne _ _ (by omega)]
    exact decide_eq_true (by omega)
  rw [make_leaf (by decide) rfl (by omega), hf]

theorem pick (k m : Int) (hm : 1 ≤ m) : 0 ≤ k.tmod m % m ∧ k.tmod m % m < m ∧ -m < k.tmod m ∧ k.tmod m < m := by
  have a := Int.emod_nonneg (k.tmod m) (show m ≠ 0 by omega)
  have b := Int.emod_lt_of_pos (k.tmod m) (show 0 < m by omega)
  have c := Int.tmod_lt_of_pos k (show 0 < m by omega)
  have d := Int.tmod_lt_of_pos (-k) (show 0 < m by omega)
  rw [Int.neg_tmod] at d
  omega

set_option maxHeartbeats 2000000 in
theorem walk (size : Int) (w0 : (Lit.int .i64 size).wf = true) (n : Int) (w1 : (Lit.int .i64 n).wf = true) (k : Int) (w2 : (Lit.int .i64 k).wf = true) (w : World) :
    Calls Try.prog 3 #[.int .i64 size, .int .i64 n, .int .i64 k] w fun e w' => e = .returned (.bool true) ∧ Below w.heap.size w w' := by
  have HA := Lib.hid alive6
  obtain ⟨K, hK⟩ : ∃ K : Nat → Prop, K = fun b => b < w.heap.size := ⟨_, rfl⟩
  have HK := Lib.hid hK
  clear hK
  by_cases h1 : size < 1
  · skip
    go_enter Try.func3, Try.ntmps3
    go_wp2_with fail
    refine (HA.out w).mono ?_
    rintro e w1 ⟨rfl, hb⟩
    go_wp2_with fail
    go_ret
    exact ⟨rfl, hb⟩
  by_cases h2 : 60 < size
  · skip
    go_enter Try.func3, Try.ntmps3
    go_wp2_with fail
    refine (HA.out w).mono ?_
    rintro e w1 ⟨rfl, hb⟩
    go_wp2_with fail
    go_ret
    exact ⟨rfl, hb⟩
  by_cases h3 : n < 0
  · skip
    go_enter Try.func3, Try.ntmps3
    go_wp2_with fail
    refine (HA.out w).mono ?_
    rintro e w1 ⟨rfl, hb⟩
    go_wp2_with fail
    go_ret
    exact ⟨rfl, hb⟩
  by_cases h4 : 80 < n
  · skip
    go_enter Try.func3, Try.ntmps3
    go_wp2_with fail
    refine (HA.out w).mono ?_
    rintro e w1 ⟨rfl, hb⟩
    go_wp2_with fail
    go_ret
    exact ⟨rfl, hb⟩
  obtain ⟨S, rfl⟩ := Int.eq_ofNat_of_zero_le (show 0 ≤ size by omega)
  obtain ⟨N, rfl⟩ := Int.eq_ofNat_of_zero_le (show 0 ≤ n by omega)
  go_enter Try.func3, Try.ntmps3
  go_wp2_with fail
  refine (HA.out w).mono ?_
  rintro e w1 ⟨rfl, hb⟩
  have Hk := Lib.hid (Kept.of_below hb K)
  clear hb
  go_wp2_with fail
  refine (new_yes S _ (by omega) (by omega)).mono ?_
  rintro e w2 ⟨p, rfl, hb, ha⟩
  replace ha := ha K (fun b h => by rw [HK.out] at h; have := Hk.out.size; omega)
  replace Hk := Lib.hid (Hk.out.trans (Kept.of_below hb K))
  clear hb
  go_wp2_with fail
  rw [← Lf_zero] at ha
  have hS1 : 1 ≤ S := by omega
  have hS2 : S ≤ 60 := by omega
  go_loopw [8] (fun i W => ∃ j : Nat, i = .int .i64 j ∧ 1 ≤ j ∧ j ≤ N + 1 ∧ Ars W K p (Lf S (min (j - 1) S)) ∧ Kept K w W) (fun i _ => N + 1 - (intOf i).toNat)
  case atStart => exact ⟨1, rfl, by omega, by omega, by simpa using ha, Hk.out⟩
  case round =>
    obtain ⟨j, rfl, j1, j2, ha, hk⟩ := hrel
    replace Hk := Lib.hid hk
    clear hk
    by_cases hlt : j ≤ N
    · have Ho := Lib.hid (Lf_ok (n := S) hS1 (by omega) (min (j - 1) S) (by omega))
      by_cases hs : S < j
      · have Hm := Lib.hid (Lf_full S)
        have Hn := Lib.hid (show min (j - 1) S = S by omega)
        rw [Hn.out] at ha Ho
        have H := Lib.hid (make_is leaf Hm.out ha Ho.out (by omega))
        clear ha
        go_wp2_with fail
        refine H.out.mono ?_
        clear H
        rintro e w3 ⟨rfl, ha, hk⟩
        replace Hk := Lib.hid (Hk.out.trans hk)
        clear hk
        go_wp2_with fail
        go_roundw
        case rel => exact ⟨j + 1, by go_num, by omega, by omega, by rw [show min (j + 1 - 1) S = S by omega]; exact ha, Hk.out⟩
        case measure => simp [intOf]; omega
      · have Hm := Lib.hid (Lf_make (n := S) (i := j - 1) (by omega))
        have Hn := Lib.hid (show min (j - 1) S = j - 1 by omega)
        rw [Hn.out] at ha Ho
        have Hj := Lib.hid (show ((j - 1 + 1 : Nat) : Int) = j by omega)
        have Hm' := Hm.out
        rw [Hj.out] at Hm'
        replace Hm := Lib.hid Hm'
        clear Hm'
        have H := Lib.hid (make_is leaf Hm.out ha Ho.out (by omega))
        clear ha
        go_wp2_with fail
        refine H.out.mono ?_
        clear H
        rintro e w3 ⟨rfl, ha, hk⟩
        replace Hk := Lib.hid (Hk.out.trans hk)
        clear hk
        go_wp2_with fail
        go_roundw
        case rel => exact ⟨j + 1, by go_num, by omega, by omega, by rw [show min (j + 1 - 1) S = j - 1 + 1 by omega]; exact ha, Hk.out⟩
        case measure => simp [intOf]; omega
    · obtain rfl : j = N + 1 := by omega
      rw [Nat.add_sub_cancel] at ha
      by_cases hN : N = 0
      · subst hN
        rw [show min 0 S = 0 by omega] at ha
        have s0 : ¬ ((S : Int) < ((0 : Nat) : Int)) := by omega
        have H := Lib.hid (used_is (c := 0) rfl ha)
        go_wp2_with fail
        refine H.out.mono ?_
        clear H
        rintro e w' ⟨rfl, rfl⟩
        go_wp2_with fail
        go_ret
        exact ⟨rfl, Hk.out.below fun b hb => by rw [HK.out]; exact hb⟩
      by_cases hSN : S < N
      · rw [show min N S = S by omega] at ha
        have s0 : (S : Int) < N := by omega
        have s1 : ((S : Int) == 0) = false := by simp; omega
        obtain ⟨X, hX⟩ : ∃ X : Nat, 1 + k.tmod (S : Int) % (S : Int) = X := Int.eq_ofNat_of_zero_le (by have := pick k S (by omega); omega)
        obtain ⟨b1, b2, b3, b4⟩ := pick k S (by omega)
        have X1 : 1 ≤ X := by omega
        have X2 : X ≤ S := by omega
        have HX := Lib.hid hX
        clear hX
        have Ho := Lib.hid (Lf_ok (n := S) hS1 (by omega) S (by omega))
        have Hd := Lib.hid (show (Lf S S).drop (1 + k.tmod (S : Int) % (S : Int)) = (D S S X, 0) by rw [HX.out]; exact dropped X1 X2 (by omega))
        have Do : Hid ((D S S X).Ok (4 * S)) := by have := ok_drop Ho.out (1 + k.tmod (S : Int) % (S : Int)); rw [Hd.out] at this; exact this
        have Hw := Lib.hid (D_work (n := S) X1 X2)
        have Eo : Hid ((E S S X).Ok (4 * S)) := by have := ok_work 1 Do.out; rw [Hw.out] at this; exact this
        have Hm := Lib.hid (show (E S S X).make leaf = ((E S S X).put X leaf, 1 + k.tmod (S : Int) % (S : Int), 0) by rw [HX.out]; exact E_make X1 X2 (by omega))
        have H := Lib.hid (drop_is (1 + k.tmod (S : Int) % (S : Int)) Hd.out ha (Do.out.fit (by omega) |> fun _ => Ho.out.fit (by omega)))
        clear ha
        go_wp2_with fail
        refine H.out.mono ?_
        clear H
        rintro e w3 ⟨rfl, ha, hk⟩
        replace Hk := Lib.hid (Hk.out.trans hk)
        clear hk
        have Hf := Lib.hid (D_free (n := S) X1 X2)
        have H := Lib.hid (make_is leaf Hf.out ha Do.out (by omega))
        clear ha
        go_wp2_with fail
        refine H.out.mono ?_
        clear H
        rintro e w4 ⟨rfl, ha, hk⟩
        replace Hk := Lib.hid (Hk.out.trans hk)
        clear hk
        have H := Lib.hid (work_is (m := 1) 1 Hw.out rfl ha Do.out (by omega) (by decide))
        clear ha
        go_wp2_with fail
        refine H.out.mono ?_
        clear H
        rintro e w5 ⟨rfl, ha, hk⟩
        replace Hk := Lib.hid (Hk.out.trans hk)
        clear hk
        have H := Lib.hid (make_is leaf Hm.out ha Eo.out (by omega))
        clear ha
        go_wp2_with fail
        refine H.out.mono ?_
        clear H
        rintro e w6 ⟨rfl, ha, hk⟩
        replace Hk := Lib.hid (Hk.out.trans hk)
        clear hk
        have H := Lib.hid (used_is (c := S) (by show (S : Int) - 1 + 1 = S; omega) ha)
        go_wp2_with fail
        refine H.out.mono ?_
        clear H
        rintro e w' ⟨rfl, rfl⟩
        go_wp2_with fail
        go_ret
        exact ⟨rfl, Hk.out.below fun b hb => by rw [HK.out]; exact hb⟩
      by_cases hSN2 : N = S
      · subst hSN2
        rw [show min N N = N by omega] at ha
        have s1 : ((N : Int) == 0) = false := by simp; omega
        obtain ⟨X, hX⟩ : ∃ X : Nat, 1 + k.tmod (N : Int) % (N : Int) = X := Int.eq_ofNat_of_zero_le (by have := pick k N (by omega); omega)
        obtain ⟨b1, b2, b3, b4⟩ := pick k N (by omega)
        have X1 : 1 ≤ X := by omega
        have X2 : X ≤ N := by omega
        have HX := Lib.hid hX
        clear hX
        have Ho := Lib.hid (Lf_ok (n := N) hS1 (by omega) N (by omega))
        have Hd := Lib.hid (show (Lf N N).drop (1 + k.tmod (N : Int) % (N : Int)) = (D N N X, 0) by rw [HX.out]; exact dropped X1 X2 (by omega))
        have Do : Hid ((D N N X).Ok (4 * N)) := by have := ok_drop Ho.out (1 + k.tmod (N : Int) % (N : Int)); rw [Hd.out] at this; exact this
        have Hw := Lib.hid (D_work (n := N) X1 X2)
        have Eo : Hid ((E N N X).Ok (4 * N)) := by have := ok_work 1 Do.out; rw [Hw.out] at this; exact this
        have Hm := Lib.hid (show (E N N X).make leaf = ((E N N X).put X leaf, 1 + k.tmod (N : Int) % (N : Int), 0) by rw [HX.out]; exact E_make X1 X2 (by omega))
        have H := Lib.hid (drop_is (1 + k.tmod (N : Int) % (N : Int)) Hd.out ha (Do.out.fit (by omega) |> fun _ => Ho.out.fit (by omega)))
        clear ha
        go_wp2_with fail
        refine H.out.mono ?_
        clear H
        rintro e w3 ⟨rfl, ha, hk⟩
        replace Hk := Lib.hid (Hk.out.trans hk)
        clear hk
        have Hf := Lib.hid (D_free (n := N) X1 X2)
        have H := Lib.hid (make_is leaf Hf.out ha Do.out (by omega))
        clear ha
        go_wp2_with fail
        refine H.out.mono ?_
        clear H
        rintro e w4 ⟨rfl, ha, hk⟩
        replace Hk := Lib.hid (Hk.out.trans hk)
        clear hk
        have H := Lib.hid (work_is (m := 1) 1 Hw.out rfl ha Do.out (by omega) (by decide))
        clear ha
        go_wp2_with fail
        refine H.out.mono ?_
        clear H
        rintro e w5 ⟨rfl, ha, hk⟩
        replace Hk := Lib.hid (Hk.out.trans hk)
        clear hk
        have H := Lib.hid (make_is leaf Hm.out ha Eo.out (by omega))
        clear ha
        go_wp2_with fail
        refine H.out.mono ?_
        clear H
        rintro e w6 ⟨rfl, ha, hk⟩
        replace Hk := Lib.hid (Hk.out.trans hk)
        clear hk
        have H := Lib.hid (used_is (c := N) (by show (N : Int) - 1 + 1 = N; omega) ha)
        go_wp2_with fail
        refine H.out.mono ?_
        clear H
        rintro e w' ⟨rfl, rfl⟩
        go_wp2_with fail
        go_ret
        exact ⟨rfl, Hk.out.below fun b hb => by rw [HK.out]; exact hb⟩
      · rw [show min N S = N by omega] at ha
        have s0 : ¬ ((S : Int) < N) := by omega
        have s1 : ((N : Int) == 0) = false := by simp; omega
        have s2 : ((N : Int) == S) = false := by simp; omega
        obtain ⟨X, hX⟩ : ∃ X : Nat, 1 + k.tmod (N : Int) % (N : Int) = X := Int.eq_ofNat_of_zero_le (by have := pick k N (by omega); omega)
        obtain ⟨b1, b2, b3, b4⟩ := pick k N (by omega)
        have X1 : 1 ≤ X := by omega
        have X2 : X ≤ N := by omega
        have HX := Lib.hid hX
        clear hX
        have Ho := Lib.hid (Lf_ok (n := S) hS1 (by omega) N (by omega))
        have Hd := Lib.hid (show (Lf S N).drop (1 + k.tmod (N : Int) % (N : Int)) = (D S N X, 0) by rw [HX.out]; exact dropped X1 X2 (by omega))
        have Do : Hid ((D S N X).Ok (4 * N)) := by have := ok_drop Ho.out (1 + k.tmod (N : Int) % (N : Int)); rw [Hd.out] at this; exact this
        have Hw := Lib.hid (D_work (n := S) X1 X2)
        have Eo : Hid ((E S N X).Ok (4 * N)) := by have := ok_work 1 Do.out; rw [Hw.out] at this; exact this
        have Hm := Lib.hid (show (E S N X).make leaf = ((E S N X).put X leaf, 1 + k.tmod (N : Int) % (N : Int), 0) by rw [HX.out]; exact E_make X1 X2 (by omega))
        have H := Lib.hid (drop_is (1 + k.tmod (N : Int) % (N : Int)) Hd.out ha (Do.out.fit (by omega) |> fun _ => Ho.out.fit (by omega)))
        clear ha
        go_wp2_with fail
        refine H.out.mono ?_
        clear H
        rintro e w3 ⟨rfl, ha, hk⟩
        replace Hk := Lib.hid (Hk.out.trans hk)
        clear hk
        skip
        have H := Lib.hid (work_is (m := 1) 1 Hw.out rfl ha Do.out (by omega) (by decide))
        clear ha
        go_wp2_with fail
        refine H.out.mono ?_
        clear H
        rintro e w5 ⟨rfl, ha, hk⟩
        replace Hk := Lib.hid (Hk.out.trans hk)
        clear hk
        have H := Lib.hid (make_is leaf Hm.out ha Eo.out (by omega))
        clear ha
        go_wp2_with fail
        refine H.out.mono ?_
        clear H
        rintro e w6 ⟨rfl, ha, hk⟩
        replace Hk := Lib.hid (Hk.out.trans hk)
        clear hk
        have H := Lib.hid (used_is (c := N) (by show (N : Int) - 1 + 1 = N; omega) ha)
        go_wp2_with fail
        refine H.out.mono ?_
        clear H
        rintro e w' ⟨rfl, rfl⟩
        go_wp2_with fail
        go_ret
        exact ⟨rfl, Hk.out.below fun b hb => by rw [HK.out]; exact hb⟩


set_option maxRecDepth 100000 in
theorem lifted (os : Os) (started : os.Started) (H : Type) (enc : TypeId × Value → H) :
    ReturnsInHanded {} Try.checked os 3 .any (Rows.arenaLeastSpec.pre6 enc Try.prog Try.f3 Rows.arenaLeastRow.domain false) (Rows.arenaLeastSpec.post enc Try.prog Try.f3 false true false false) := by
  refine returnsInHanded_of_change (C := Try.checked) own_ started (by kernel_rfl) Try.func3
    (ChangeSpec.witness6 (enc := enc) (C := Try.checked) false ⟨#[], #[.int .i64 0, .int .i64 0, .int .i64 0], []⟩ 8 (by kernel_rfl) (by kernel_rfl) (by kernel_rfl) (by kernel_rfl)) ?_
  intro W base args ds gs before hval0 hW _ _
  have hval : ∀ (j : Nat) t v, Try.f3.params[j]? = some t → args[j]? = some v → Value.okWide Try.prog W .any base t v := hval0
  have hW' := hW
  obtain ⟨p, q, hA0, hV, rfl, hfz, hnd⟩ := hW
  have hA : DataW.TrodAll enc Try.prog W 0 (fun _ => true) true Try.f3.params.toList args.toList ds p := hA0
  rw [Try.params3] at hA hval
  obtain ⟨v0, vs0, d0, ds0, p0, q0, hargs, rfl, rfl, h0, r0⟩ := trodAll_cons hA
  obtain ⟨v1, vs1, d1, ds1, p1, q1, rfl, rfl, rfl, h1, r1⟩ := trodAll_cons r0
  obtain ⟨v2, vs2, d2, ds2, p2, q2, rfl, rfl, rfl, h2, r2⟩ := trodAll_cons r1
  obtain ⟨rfl, rfl, rfl⟩ := trodAll_nil r2
  obtain rfl : args = #[v0, v1, v2] := by cases args; simp_all
  obtain ⟨a0, rfl, rfl, rfl, w0⟩ := open_int Try.underlying3 (hval 0 3 v0 rfl rfl) h0
  obtain ⟨a1, rfl, rfl, rfl, w1⟩ := open_int Try.underlying3 (hval 1 3 v1 rfl rfl) h1
  obtain ⟨a2, rfl, rfl, rfl, w2⟩ := open_int Try.underlying3 (hval 2 3 v2 rfl rfl) h2
  clear hA0 hval0
  refine (walk a0 w0 a1 w1 a2 w2 W).mono fun e W' ⟨he, hg⟩ => ?_
  subst he
  exact ⟨_, rfl, law_post laid_ (by kernel_rfl) rfl hW' hg rfl Try.underlying4 ⟨rfl, rfl, rfl⟩⟩

theorem over : Rows.arenaLeastRow.holds Try.pinned (OpenSpec.ofChange Rows.arenaLeastSpec) :=
  OpenClaim.holds_of_wide 3 Try.f3 rfl rfl rfl rfl rfl rfl rfl ⟨rfl, rfl, rfl, rfl, rfl⟩ rfl rfl rfl rfl rfl (by kernel_rfl) Try.func3 (by kernel_rfl)
    (of_decide_eq_true (by kernel_rfl)) (by unfold Func.isWrapper; first | (rw [if_pos (by decide +kernel)]; kernel_rfl) | (rw [if_neg (by decide +kernel)]; exact ⟨rfl, rfl⟩))
    (fun os started H enc _ => lifted os started H enc)

theorem proved : Rows.ArenaLeastSaid :=
  over
#print axioms proved
end Go.Proofs.Ytajkhkgakafgkaa.arenaLeast
