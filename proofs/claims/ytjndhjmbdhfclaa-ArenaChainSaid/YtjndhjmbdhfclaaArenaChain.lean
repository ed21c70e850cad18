/- ArenaChain holds: of a chain that is dropped at its head one node is freed at each time; what is shared stays. No condition. -/
import Derived.Test.YtjndhjmbdhfclaaChn
import Derived.Test.YtjndhjmbdhfclaaRe
import Derived.Test.YtjndhjmbdhfclaaA8
import Derived.Test.YtjndhjmbdhfclaaLaw
namespace Go.Proofs.Ytjndhjmbdhfclaa.arenaChain
set_option maxRecDepth 100000
open Go.ChangeShapes Go.WideShapes Go.ChangeAt Go.RowKit
set_option linter.unusedVariables false
set_option maxRecDepth 100000 in
set_option maxHeartbeats 4000000 in
theorem walk (n : Int) (w0 : (Lit.int .i64 n).wf = true) (sh : Int) (w1' : (Lit.int .i64 sh).wf = true) (w : World) :
    Calls Try.prog 4 #[.int .i64 n, .int .i64 sh] w fun e w' => e = .returned (.bool true) ∧ Below w.heap.size w w' := by
  have HA := Lib.hid alive6
  by_cases h1 : n < 1
  · skip
    go_enter Try.func4, Try.ntmps4
    go_wp2_with fail
    refine (HA.out w).mono ?_
    rintro e w1 ⟨rfl, hb⟩
    go_wp2_with fail
    go_ret
    exact ⟨rfl, hb⟩
  by_cases h2 : 50 < n
  · skip
    go_enter Try.func4, Try.ntmps4
    go_wp2_with fail
    refine (HA.out w).mono ?_
    rintro e w1 ⟨rfl, hb⟩
    go_wp2_with fail
    go_ret
    exact ⟨rfl, hb⟩
  obtain ⟨N, rfl⟩ := Int.eq_ofNat_of_zero_le (show 0 ≤ n by omega)
  obtain ⟨b1, b2, b3, b4⟩ := pick sh N (by omega)
  obtain ⟨i, hi⟩ := Int.eq_ofNat_of_zero_le b1
  have hiN : i < N := by omega
  obtain ⟨K, hK⟩ : ∃ K : Nat → Prop, K = fun b => b < w.heap.size := ⟨_, rfl⟩
  have HK := Lib.hid hK
  clear hK
  go_enter Try.func4, Try.ntmps4
  go_wp2_with fail
  refine (HA.out w).mono ?_
  rintro e w1 ⟨rfl, hb⟩
  have Hk := Lib.hid (Kept.of_below hb K)
  clear hb
  go_wp2_with fail
  refine (new_yes 60 _ (by decide) (by decide)).mono ?_
  rintro e w2 ⟨p, rfl, hb, ha⟩
  replace ha := ha K (fun b h => by rw [HK.out] at h; have := Hk.out.size; omega)
  replace Hk := Lib.hid (Hk.out.trans (Kept.of_below hb K))
  clear hb
  go_wp2_with fail
  rw [Int.add_emod_right, hi, show 1 + (i : Int) = ((i + 1 : Nat) : Int) by omega]
  obtain ⟨a, ha1⟩ : ∃ a, i + 1 = a := ⟨_, rfl⟩
  rw [ha1]
  have a1 : 1 ≤ a := by omega
  have a2 : a ≤ N := by omega
  have Ha := Lib.hid ha
  clear hi b1 b2 b3 b4 ha1 hiN ha
  go_loopw [7, 8] (fun l k W => ∃ j : Nat, l = .int .i64 j ∧ k = .int .i64 ((j : Int) + 1) ∧ j ≤ N ∧ ∃ s, Ch s j (4 * j) ∧ Ars W K p s ∧ Kept K w W) (fun _ k _ => N + 1 - (intOf k).toNat)
  case atStart => exact ⟨0, rfl, rfl, by omega, _, ch_new, Ha.out, Hk.out⟩
  case round =>
    obtain ⟨j, rfl, rfl, j1, s, hs, ha, hk⟩ := hrel
    clear Ha Hk
    have Hs := Lib.hid hs
    have Hk := Lib.hid hk
    by_cases hlt : j < N
    · obtain ⟨t, u, e1, o1, e2, e3, hu⟩ := hs.next (by omega)
      have M1 := Lib.hid e1
      have O1 := Lib.hid o1
      have Hu := Lib.hid hu
      clear hs hk e1 o1 hu
      by_cases j0 : j = 0
      · subst j0
        obtain rfl := e3 rfl
        clear e2
        have H := Lib.hid (make_is ⟨5, ((0 : Nat) : Int), 0, 0, 0, 0, 0⟩ M1.out ha Hs.out.ok (by omega))
        clear ha
        go_wp2_with fail
        refine H.out.mono ?_
        clear H
        rintro e w4 ⟨rfl, ha, hk⟩
        replace Hk := Lib.hid (Hk.out.trans hk)
        clear hk
        go_wp2_with fail
        go_roundw
        case rel => exact ⟨1, rfl, by go_num, by omega, _, Hu.out.mono (by omega), ha, Hk.out⟩
        case measure => simp [intOf]; omega
      · have D1 := Lib.hid (e2 j0)
        have j0' : ((j : Int) == 0) = false := by simpa using j0
        clear e2 e3
        have H := Lib.hid (make_is ⟨5, (j : Int), 0, 0, 0, 0, 0⟩ M1.out ha Hs.out.ok (by omega))
        clear ha
        go_wp2_with fail
        refine H.out.mono ?_
        clear H
        rintro e w4 ⟨rfl, ha, hk⟩
        replace Hk := Lib.hid (Hk.out.trans hk)
        clear hk
        have H := Lib.hid (drop_is (j : Int) D1.out ha (O1.out.fit (by omega)))
        clear ha
        go_wp2_with fail
        refine H.out.mono ?_
        clear H
        rintro e w5 ⟨rfl, ha, hk⟩
        replace Hk := Lib.hid (Hk.out.trans hk)
        clear hk
        go_wp2_with fail
        go_roundw
        case rel => exact ⟨j + 1, by go_num, by go_num, by omega, _, Hu.out.mono (by omega), ha, Hk.out⟩
        case measure => simp [intOf]; omega
    · obtain rfl : N = j := by omega
      obtain ⟨t, u, e1, o1, e2, o2, e3, e4⟩ := hs.cut (by omega) a1 a2
      have M1 := Lib.hid e1
      have O1 := Lib.hid o1
      have M2 := Lib.hid e2
      have O2 := Lib.hid o2
      clear hs hk e1 o1 e2 o2
      have H := Lib.hid (keep_is (a : Int) M1.out ha (Hs.out.ok.fit (by omega)))
      clear ha
      go_wp2_with fail
      refine H.out.mono ?_
      clear H
      rintro e w4 ⟨rfl, ha, hk⟩
      replace Hk := Lib.hid (Hk.out.trans hk)
      clear hk
      have H := Lib.hid (drop_is (N : Int) M2.out ha (O1.out.fit (by omega)))
      clear ha
      go_wp2_with fail
      refine H.out.mono ?_
      clear H
      rintro e w5 ⟨rfl, ha, hk⟩
      replace Hk := Lib.hid (Hk.out.trans hk)
      clear hk
      by_cases ea : a = N
      · subst ea
        obtain ⟨q1, q2⟩ := e3 rfl
        have Q1 := Lib.hid (show (u.wt.length : Int) = 0 by rw [q1]; rfl)
        have Q2 := Lib.hid q2
        clear q1 q2 e3 e4
        have H := Lib.hid (pending_is Q1.out ha)
        go_wp2_with fail
        refine H.out.mono ?_
        clear H
        rintro e w' ⟨rfl, rfl⟩
        have H := Lib.hid (used_is Q2.out ha)
        go_wp2_with fail
        refine H.out.mono ?_
        clear H
        rintro e w' ⟨rfl, rfl⟩
        go_wp2_with fail
        go_ret
        exact ⟨rfl, Hk.out.below fun b hb => by rw [HK.out]; exact hb⟩
      · have hcd := e4 ea
        have ea' : ((a : Int) == (N : Int)) = false := by simp; omega
        clear e3 e4
        have Hcd := Lib.hid hcd
        have Ha := Lib.hid ha
        clear hcd ha Hs O2 M1 M2 O1
        go_wp2_with fail
        go_loopw [11] (fun k W => ∃ k' : Nat, k = .int .i64 k' ∧ a ≤ k' ∧ k' ≤ N ∧ ∃ s, Cd s k' a (4 * N + 1) ∧ Ars W K p s ∧ Kept K w W) (fun k _ => (intOf k).toNat)
        case atStart => exact ⟨N, rfl, a2, Nat.le_refl _, u, Hcd.out, Ha.out, Hk.out⟩
        case round =>
          obtain ⟨k, rfl, k1, k2, s2, hs, ha, hk⟩ := hrel
          clear Hcd Ha Hk
          have Hs := Lib.hid hs
          have Hk := Lib.hid hk
          clear hk
          by_cases hlt2 : a < k
          · obtain ⟨k', rfl⟩ : ∃ k', k = k' + 1 := ⟨k - 1, by omega⟩
            obtain ⟨t, e1, ht⟩ := hs.next (by omega) a1 hlt2
            have M1 := Lib.hid e1
            have Ht := Lib.hid ht
            have Q1 := Lib.hid (show (s2.wt.length : Int) = 1 by rw [hs.wt, if_neg (by omega)]; rfl)
            clear hs e1 ht
            have H := Lib.hid (pending_is Q1.out ha)
            go_wp2_with fail
            refine H.out.mono ?_
            clear H
            rintro e w' ⟨rfl, rfl⟩
            have H := Lib.hid (work_is (m := 1) 1 M1.out rfl ha Hs.out.ok (by omega) (by decide))
            clear ha
            go_wp2_with fail
            refine H.out.mono ?_
            clear H
            rintro e w7 ⟨rfl, ha, hk⟩
            replace Hk := Lib.hid (Hk.out.trans hk)
            clear hk
            go_wp2_with fail
            go_roundw
            case rel => exact ⟨k', by go_num, by omega, by omega, t, Ht.out, ha, Hk.out⟩
            case measure => simp [intOf]
          · obtain rfl : a = k := by omega
            have Q1 := Lib.hid (show (s2.wt.length : Int) = 0 by rw [hs.wt, if_pos rfl]; rfl)
            have Q2 := Lib.hid hs.busy
            have Q3 := Lib.hid (show s2.count (a : Int) = 1 by unfold Ar.count; rw [if_neg (by rw [hs.n]; omega), show (a : Int).toNat = a by omega, hs.c a a1 (Nat.le_refl _), if_pos rfl])
            have Q4 := Lib.hid (show s2.work 5 = (s2, 0) from work_none (by rw [hs.wt, if_pos rfl]) 5)
            have Hf := Lib.hid (hs.ok.fit (by omega))
            have Hr := Lib.hid (fun x => hs.rch a1 (by omega) x)
            clear hs
            have H := Lib.hid (pending_is Q1.out ha)
            go_wp2_with fail
            refine H.out.mono ?_
            clear H
            rintro e w' ⟨rfl, rfl⟩
            have H := Lib.hid (used_is Q2.out ha)
            go_wp2_with fail
            refine H.out.mono ?_
            clear H
            rintro e w' ⟨rfl, rfl⟩
            have H := Lib.hid (count_is (a : Int) Q3.out ha Hf.out)
            go_wp2_with fail
            refine H.out.mono ?_
            clear H
            rintro e w' ⟨rfl, rfl⟩
            have hI : Ints (wr.alloc (.cells #[.int .i64 (a : Int)] 3)) (.slice (some ⟨wr.heap.size, 0, none⟩) 1 1) [(a : Int)] := .inr ⟨wr.heap.size, 0, 1, rfl, by simp, by simp, fun j hj => by
              obtain rfl : j = 0 := by simpa using hj
              exact cell_new rfl rfl⟩
            have H := Lib.hid (reach_is (ha.alloc _) Hf.out hI (by simp))
            have Ha := Lib.hid ha
            clear ha hI
            go_wp2_with fail
            refine H.out.mono ?_
            clear H
            rintro e w6 ⟨v', ys, Ko, rfl, hl, _, hasc, hmem, hb⟩
            have hys : ys = upto a := asc_ext hasc (upto_asc a) fun x => (hmem x).trans ((Hr.out x).trans mem_upto.symm)
            obtain ⟨av, cv, rfl⟩ := hl.slice
            have hyl : ys.length = a := by rw [hys, upto_len]
            rw [hyl]
            have ha6 := (Ha.out.alloc (.cells #[.int .i64 (a : Int)] 3)).below hb
            have Hk6 := Lib.hid ((Hk.out.alloc (.cells #[.int .i64 (a : Int)] 3)).trans (Kept.of_below hb K))
            clear hl hasc hmem hb hys hyl Ha
            have H := Lib.hid (work_is (m := 0) 5 Q4.out rfl ha6 Hs.out.ok (by omega) (by decide))
            clear ha6
            go_wp2_with fail
            refine H.out.mono ?_
            clear H
            rintro e w7 ⟨rfl, _, hk7⟩
            have Hk7 := Lib.hid (Hk6.out.trans hk7)
            clear hk7
            go_wp2_with fail
            go_ret
            exact ⟨rfl, Hk7.out.below fun b hb => by rw [HK.out]; exact hb⟩

set_option maxRecDepth 100000 in
theorem lifted (os : Os) (started : os.Started) (H : Type) (enc : TypeId × Value → H) :
    ReturnsInHanded {} Try.checked os 4 .any (Rows.arenaChainSpec.pre6 enc Try.prog Try.f4 Rows.arenaChainRow.domain false) (Rows.arenaChainSpec.post enc Try.prog Try.f4 false true false false) := by
  refine returnsInHanded_of_change (C := Try.checked) own_ started (by kernel_rfl) Try.func4
    (ChangeSpec.witness6 (enc := enc) (C := Try.checked) false ⟨#[], #[.int .i64 0, .int .i64 0], []⟩ 8 (by kernel_rfl) (by kernel_rfl) (by kernel_rfl) (by kernel_rfl)) ?_
  intro W base args ds gs before hval0 hW _ _
  have hval : ∀ (j : Nat) t v, Try.f4.params[j]? = some t → args[j]? = some v → Value.okWide Try.prog W .any base t v := hval0
  have hW' := hW
  obtain ⟨p, q, hA0, hV, rfl, hfz, hnd⟩ := hW
  have hA : DataW.TrodAll enc Try.prog W 0 (fun _ => true) true Try.f4.params.toList args.toList ds p := hA0
  rw [Try.params4] at hA hval
  obtain ⟨v0, vs0, d0, ds0, p0, q0, hargs, rfl, rfl, h0, r0⟩ := trodAll_cons hA
  obtain ⟨v1, vs1, d1, ds1, p1, q1, rfl, rfl, rfl, h1, r1⟩ := trodAll_cons r0
  obtain ⟨rfl, rfl, rfl⟩ := trodAll_nil r1
  obtain rfl : args = #[v0, v1] := by cases args; simp_all
  obtain ⟨a0, rfl, rfl, rfl, w0⟩ := open_int Try.underlying3 (hval 0 3 v0 rfl rfl) h0
  obtain ⟨a1, rfl, rfl, rfl, w1⟩ := open_int Try.underlying3 (hval 1 3 v1 rfl rfl) h1
  clear hA0 hval0
  refine (walk a0 w0 a1 w1 W ).mono fun e W' ⟨he, hg⟩ => ?_
  subst he
  exact ⟨_, rfl, law_post laid_ (by kernel_rfl) rfl hW' hg rfl Try.underlying4 ⟨rfl, rfl, rfl⟩⟩

theorem over : Rows.arenaChainRow.holds Try.pinned (OpenSpec.ofChange Rows.arenaChainSpec) :=
  OpenClaim.holds_of_wide 4 Try.f4 rfl rfl rfl rfl rfl rfl rfl ⟨rfl, rfl, rfl, rfl, rfl⟩ rfl rfl rfl rfl rfl (by kernel_rfl) Try.func4 (by kernel_rfl)
    (of_decide_eq_true (by kernel_rfl)) (by unfold Func.isWrapper; first | (rw [if_pos (by decide +kernel)]; kernel_rfl) | (rw [if_neg (by decide +kernel)]; exact ⟨rfl, rfl⟩))
    (fun os started H enc _ => lifted os started H enc)

theorem proved : Rows.ArenaChainSaid :=
  over
#print axioms proved
end Go.Proofs.Ytjndhjmbdhfclaa.arenaChain
