/- PinsKeep holds: a snapshot tells its version's number, whichever came since; closed it tells none. No condition. -/
import Derived.Test.YtajkhkgakafgkaaKp
import Derived.Test.YtajkhkgakafgkaaP3
import Derived.Test.YtajkhkgakafgkaaLaw
namespace Go.Proofs.Ytajkhkgakafgkaa.pinsKeep
open Go.ChangeShapes Go.WideShapes Go.ChangeAt Go.RowKit
set_option linter.unusedVariables false

/-- Who is kept, at round j. -/
def Kx (k j r : Int) (es : List (Int × Int × Int)) (last : Int) (rd : List Int) : Prop :=
  (j ≤ k ∧ es = [] ∧ last = 0 ∧ rd = []) ∨ (k < j ∧ ∃ x, es = [(1, x, k)] ∧ last = 1 ∧ ((x = 0 ∧ rd = [] ∧ k = 0) ∨ (rd = [x] ∧ x ≠ r ∧ x ≠ 0 ∧ k ≠ 0)))
def PK (w : World) (K : Nat → Prop) (P q p mb : Nat) (k j : Int) (W : World) : Prop :=
  ∃ s r es last rd, Pin W K P q p mb s r j 0 es last ∧ KP s j k r rd (10 * j) ∧ Kx k j r es last rd ∧ Below w.heap.size w W
set_option maxRecDepth 100000 in
set_option maxHeartbeats 4000000 in
theorem walk (n : Int) (w0 : (Lit.int .i64 n).wf = true) (at_ : Int) (w1' : (Lit.int .i64 at_).wf = true) (w : World) :
    Calls Try.prog 13 #[.int .i64 n, .int .i64 at_] w fun e w' => e = .returned (.bool true) ∧ Below w.heap.size w w' := by
  have HA := Lib.hid alive18
  by_cases h1 : n < 1
  · skip
    go_enter Try.func13, Try.ntmps13
    go_wp2_with fail
    refine (HA.out w).mono ?_
    rintro e w1 ⟨rfl, hb⟩
    go_wp2_with fail
    go_ret
    exact ⟨rfl, hb⟩
  by_cases h2 : 20 < n
  · skip
    go_enter Try.func13, Try.ntmps13
    go_wp2_with fail
    refine (HA.out w).mono ?_
    rintro e w1 ⟨rfl, hb⟩
    go_wp2_with fail
    go_ret
    exact ⟨rfl, hb⟩
  obtain ⟨N, rfl⟩ := Int.eq_ofNat_of_zero_le (show 0 ≤ n by omega)
  obtain ⟨b1, b2, b3, b4⟩ := pick at_ N (by omega)
  obtain ⟨k, hi⟩ := Int.eq_ofNat_of_zero_le b1
  have hkN : k < N := by omega
  obtain ⟨K, hK⟩ : ∃ K : Nat → Prop, K = fun b => b < w.heap.size := ⟨_, rfl⟩
  have HK := Lib.hid hK
  clear hK
  go_enter Try.func13, Try.ntmps13
  go_wp2_with fail
  refine (HA.out w).mono ?_
  rintro e w1 ⟨rfl, hb⟩
  have Hk := Lib.hid (Kept.of_below hb K)
  clear hb
  go_wp2_with fail
  refine (new_yes 30 _ (by decide) (by decide)).mono ?_
  rintro e w2 ⟨p, rfl, hb, ha⟩
  replace ha := ha K (fun b h => by rw [HK.out] at h; have := Hk.out.size; omega)
  replace Hk := Lib.hid (Hk.out.trans (Kept.of_below hb K))
  clear hb
  have H := Lib.hid (cnew_is ha)
  clear ha
  go_wp2_with fail
  refine H.out.mono ?_
  clear H
  rintro e w3 ⟨q, rfl, ha, hb⟩
  replace Hk := Lib.hid (Hk.out.trans (Kept.of_below hb K))
  clear hb
  have H := Lib.hid (pnew_is ha)
  clear ha
  go_wp2_with fail
  refine H.out.mono ?_
  clear H
  rintro e w4 ⟨P, mb, rfl, ha, hb⟩
  replace Hk := Lib.hid (Hk.out.trans (Kept.of_below hb K))
  clear hb
  go_wp2_with fail
  have h0 : PK w K P q p mb k 0 w4 := ⟨_, _, _, _, _, ha, kp_new _, .inl ⟨by omega, rfl, rfl, rfl⟩, Hk.out.below (fun b hb => by rw [HK.out]; exact hb)⟩
  clear ha Hk
  rw [Int.add_emod_right, hi]
  clear hi b1 b2 b3 b4
  go_loopw [9] (fun i W => ∃ j : Nat, i = .int .i64 j ∧ j ≤ N ∧ PK w K P q p mb k j W) (fun i _ => N - (intOf i).toNat)
  case atStart => exact ⟨0, rfl, by omega, h0⟩
  case round =>
    obtain ⟨j, rfl, j1, s, r, es, last, rd, hpin, hkp, hx, hbel⟩ := hrel
    clear h0
    have Hbel := Lib.hid hbel
    have Hx := Lib.hid hx
    clear hbel hx
    by_cases hlt : j < N
    · by_cases hjk : j = k
      · subst hjk
        as_aux_lemma =>
          have hx := Hx.out
          clear Hx
          rcases hx with ⟨_, rfl, rfl, rfl⟩ | ⟨a, _⟩
          · obtain ⟨s', rd', hs, hkp', hxx⟩ : ∃ s' rd', ((r = 0 ∧ s' = s) ∨ (r ≠ 0 ∧ s.keep r = (s', 0))) ∧ KP s' j j r rd' (10 * j + 1) ∧ ((r = 0 ∧ rd' = [] ∧ (j : Int) = 0) ∨ (rd' = [r] ∧ r ≠ 0 ∧ (j : Int) ≠ 0)) := by
              by_cases r0 : r = 0
              · exact ⟨s, [], .inl ⟨r0, rfl⟩, ⟨hkp.cp.mono (by omega), hkp.wt, hkp.us, hkp.ndr, hkp.ndp, hkp.rl, hkp.ri⟩, .inl ⟨r0, rfl, hkp.ri.1 r0⟩⟩
              · obtain ⟨t, e, kk⟩ := hkp.keep r0
                exact ⟨t, [r], .inr ⟨r0, e⟩, kk, .inr ⟨rfl, r0, fun e => r0 (hkp.ri.2 e)⟩⟩
            have H := Lib.hid (popen_is (e0 := 0) (by simp) (by omega) (by omega) hs (hkp.cp.ok.fit (by omega)) hpin)
            have Hxx := Lib.hid hxx
            clear hs hxx hkp
            have hkp := hkp'
            clear hkp' hpin
            go_wp2_with fail
            refine H.out.mono ?_
            clear H
            rintro e w3 ⟨rfl, hpin, hk⟩
            have K3 := Lib.hid hk
            clear hk
            go_wp2_with fail
            obtain ⟨t, f, u, e, v, m, m1, m2, m3, m4, m5, m6, m7, m8⟩ := hkp.next (by omega)
            have M1 := Lib.hid m1
            have M2 := Lib.hid m2
            have M3 := Lib.hid m3
            have M4 := Lib.hid m4
            have M5 := Lib.hid m5
            have M6 := Lib.hid m6
            have M7 := Lib.hid m7
            have Hok := Lib.hid hkp.cp.ok
            have Hp := Lib.hid hpin
            have ha := hpin.cel
            have Hk := Lib.hid (Kept.refl (fun b => K b ∨ b = P ∨ b = mb) w3)
            clear m1 m2 m3 m4 m5 m6 m7 hkp hpin
            have H := Lib.hid (cmake_is (vn ((j : Int) + 1)) M1.out ha Hok.out (by omega))
            clear ha
            go_wp2_with fail
            refine H.out.mono ?_
            clear H
            rintro e w4 ⟨rfl, ha, hk⟩
            replace Hk := Lib.hid (Hk.out.trans hk)
            clear hk
            have H := Lib.hid (publish_now (root := f) M3.out (M2.out.fit (by omega)) (by omega) ha)
            clear ha
            go_wp2_with fail
            refine H.out.mono ?_
            clear H
            rintro e w5 ⟨rfl, ha, hk⟩
            replace Hk := Lib.hid (Hk.out.trans hk)
            clear hk
            have H := Lib.hid (cwork_is (m := m) 5 M5.out rfl ha M4.out (by omega) (by decide))
            clear ha
            go_wp2_with fail
            refine H.out.mono ?_
            clear H
            rintro e w6 ⟨rfl, ha, hk⟩
            replace Hk := Lib.hid (Hk.out.trans hk)
            clear hk
            go_wp2_with fail
            go_roundw
            case rel =>
              have h6 := Hp.out.turn ha Hk.out
              have hm := M6.out
              refine ⟨j + 1, by go_num, by omega, v, f, _, _, rd', by simpa using h6, ⟨by have := hm.cp.mono (B' := 10 * ((j + 1 : Nat) : Int)) (by omega); exact this, hm.wt, hm.us, by simpa using hm.ndr, hm.ndp, hm.rl, by simpa using hm.ri⟩, ?_, Hbel.out.trans (((K3.out.trans Hk.out.less).mono fun b _ hb => by rw [HK.out]; exact hb).below_of Hbel.out.size)⟩
              refine .inr ⟨by omega, r, rfl, rfl, ?_⟩
              rcases Hxx.out with ⟨a, b, c⟩ | ⟨a, b, c⟩
              · exact .inl ⟨a, b, c⟩
              · refine .inr ⟨a, fun e => ?_, b, c⟩
                have := M7.out
                rw [a, e] at this
                exact this (by simp)
            case measure => simp [intOf]; omega
          · omega
      · have hjk' : ((j : Int) == (k : Int)) = false := by simp; omega
        as_aux_lemma =>
          replace hkp : KP s j k r rd (10 * j + 1) := ⟨hkp.cp.mono (by omega), hkp.wt, hkp.us, hkp.ndr, hkp.ndp, hkp.rl, hkp.ri⟩
          go_wp2_with fail
          obtain ⟨t, f, u, e, v, m, m1, m2, m3, m4, m5, m6, m7, m8⟩ := hkp.next (by omega)
          have M1 := Lib.hid m1
          have M2 := Lib.hid m2
          have M3 := Lib.hid m3
          have M4 := Lib.hid m4
          have M5 := Lib.hid m5
          have M6 := Lib.hid m6
          have M7 := Lib.hid m7
          have Hok := Lib.hid hkp.cp.ok
          have Hp := Lib.hid hpin
          have ha := hpin.cel
          have Hk := Lib.hid (Kept.refl (fun b => K b ∨ b = P ∨ b = mb) wr)
          clear m1 m2 m3 m4 m5 m6 m7 hkp hpin
          have H := Lib.hid (cmake_is (vn ((j : Int) + 1)) M1.out ha Hok.out (by omega))
          clear ha
          go_wp2_with fail
          refine H.out.mono ?_
          clear H
          rintro e w4 ⟨rfl, ha, hk⟩
          replace Hk := Lib.hid (Hk.out.trans hk)
          clear hk
          have H := Lib.hid (publish_now (root := f) M3.out (M2.out.fit (by omega)) (by omega) ha)
          clear ha
          go_wp2_with fail
          refine H.out.mono ?_
          clear H
          rintro e w5 ⟨rfl, ha, hk⟩
          replace Hk := Lib.hid (Hk.out.trans hk)
          clear hk
          have H := Lib.hid (cwork_is (m := m) 5 M5.out rfl ha M4.out (by omega) (by decide))
          clear ha
          go_wp2_with fail
          refine H.out.mono ?_
          clear H
          rintro e w6 ⟨rfl, ha, hk⟩
          replace Hk := Lib.hid (Hk.out.trans hk)
          clear hk
          go_wp2_with fail
          go_roundw
          case rel =>
            have h6 := Hp.out.turn ha Hk.out
            have hm := M6.out
            refine ⟨j + 1, by go_num, by omega, v, f, es, last, rd, by simpa using h6, ⟨by have := hm.cp.mono (B' := 10 * ((j + 1 : Nat) : Int)) (by omega); exact this, hm.wt, hm.us, by simpa using hm.ndr, hm.ndp, hm.rl, by simpa using hm.ri⟩, ?_, Hbel.out.trans ((Hk.out.less.mono fun b _ hb => by rw [HK.out]; exact hb).below_of Hbel.out.size)⟩
            rcases Hx.out with ⟨a, b⟩ | ⟨a, x, b, c, d⟩
            · exact .inl ⟨by omega, b⟩
            · refine .inr ⟨by omega, x, b, c, ?_⟩
              rcases d with d | ⟨d1, d2, d3⟩
              · exact .inl d
              · refine .inr ⟨d1, fun e => ?_, d3⟩
                have := M7.out
                rw [d1, e] at this
                exact this (by simp)
          case measure => simp [intOf]; omega
    · obtain rfl : N = j := by omega
      have hx := Hx.out
      clear Hx
      rcases hx with ⟨a, _⟩ | ⟨a, x, rfl, rfl, hxx⟩
      · omega
      · have hr0 : r ≠ 0 := fun e => by have := hkp.ri.1 e; omega
        obtain ⟨t, e, v, m, g1, g2, g3, g4, g5⟩ := hkp.fin (x := x) hr0 (by rcases hxx with ⟨a, b, c⟩ | ⟨a, b, c⟩; exact .inl ⟨a, b⟩; exact .inr ⟨a, b⟩)
        have G1 := Lib.hid g1
        have G2 := Lib.hid g2
        have G3 := Lib.hid g3
        have G4 := Lib.hid g4
        have Ok := Lib.hid hkp.cp.ok
        have Hg := Lib.hid (fun h => hkp.get (x := x) h)
        have H := Lib.hid (proot_is (k := 1) (WalkArith.wf_i64 (by decide)) hpin)
        clear g1 g2 g3 g4 g5 hkp hpin
        go_wp2_with fail
        refine H.out.mono ?_
        clear H
        rintro e w3 ⟨rfl, hpin, hb⟩
        have B3 := Lib.hid hb
        clear hb
        rw [show plook [(1, x, (k : Int))] 1 = (x, (k : Int)) from rfl, show phas [(1, x, (k : Int))] 1 = true from by simp [phas]]
        rcases hxx with ⟨rfl, rfl, hk0⟩ | ⟨rfl, hxr, hx0, hk0⟩
        · obtain rfl : k = 0 := by omega
          as_aux_lemma =>
            have H := Lib.hid (cget_is (x := Nd.zero) (b := false) 0 rfl hpin.cel (Ok.out.fit (by omega)))
            have Hp := Lib.hid hpin
            clear hpin
            go_wp2_with fail
            refine H.out.mono ?_
            clear H
            rintro e w5 ⟨rfl, ha, hb⟩
            have Hp5 := Lib.hid ((Hp.out.turn ha (Kept.of_below hb _)).alloc (.cells #[.int .i64 0, .int .i64 0, .int .i64 0, .int .i64 0, .int .i64 0, .int .u64 0, .int .u64 0] 31))
            have B5 := Lib.hid hb
            clear ha hb Hp
            have H := Lib.hid (pclose_is (k := 1) (WalkArith.wf_i64 (by decide)) (by simp) G1.out (Ok.out.fit (by omega)) Hp5.out)
            go_wp2_with fail
            refine H.out.mono ?_
            clear H
            rintro e w6 ⟨rfl, hpin, hk⟩
            have K6 := Lib.hid hk
            clear hk
            rw [show pcut [(1, (0 : Int), ((0 : Nat) : Int))] 1 = [] from by simp [pcut]] at hpin
            have H := Lib.hid (proot_is (k := 1) (WalkArith.wf_i64 (by decide)) hpin)
            clear hpin
            go_wp2_with fail
            refine H.out.mono ?_
            clear H
            rintro e w7 ⟨rfl, hpin, hb⟩
            have B7 := Lib.hid hb
            clear hb
            have H := Lib.hid (cwork_is (m := m) 50 G3.out rfl hpin.cel G2.out (by omega) (by decide))
            clear hpin
            go_wp2_with fail
            refine H.out.mono ?_
            clear H
            rintro e w8 ⟨rfl, ha, hk⟩
            have K8 := Lib.hid hk
            clear hk
            have H := Lib.hid (cused_is G4.out ha)
            clear ha
            go_wp2_with fail
            refine H.out.mono ?_
            clear H
            rintro e w' ⟨rfl, rfl⟩
            go_wp2_with fail
            go_ret
            exact ⟨rfl, Hbel.out.trans ((((((Kept.of_below B3.out K).trans (Kept.of_below B5.out K)).alloc (.cells #[.int .i64 0, .int .i64 0, .int .i64 0, .int .i64 0, .int .i64 0, .int .u64 0, .int .u64 0] 31)).trans (K6.out.trans ((Kept.of_below B7.out K).trans K8.out.less))).mono fun b _ hb => by rw [HK.out]; exact hb).below_of Hbel.out.size)⟩
        · skip
          as_aux_lemma =>
            have H := Lib.hid (cget_is (x := vn k) (b := true) x (Hg.out (by simp)) hpin.cel (Ok.out.fit (by omega)))
            have Hp := Lib.hid hpin
            clear hpin
            go_wp2_with fail
            refine H.out.mono ?_
            clear H
            rintro e w5 ⟨rfl, ha, hb⟩
            have Hp5 := Lib.hid ((Hp.out.turn ha (Kept.of_below hb _)).alloc (.cells #[.int .i64 6, .int .i64 0, .int .i64 0, .int .i64 0, .int .i64 0, .int .u64 k, .int .u64 0] 31))
            have B5 := Lib.hid hb
            clear ha hb Hp
            have H := Lib.hid (pclose_is (k := 1) (WalkArith.wf_i64 (by decide)) (by simp) G1.out (Ok.out.fit (by omega)) Hp5.out)
            go_wp2_with fail
            refine H.out.mono ?_
            clear H
            rintro e w6 ⟨rfl, hpin, hk⟩
            have K6 := Lib.hid hk
            clear hk
            rw [show pcut [(1, x, (k : Int))] 1 = [] from by simp [pcut]] at hpin
            have H := Lib.hid (proot_is (k := 1) (WalkArith.wf_i64 (by decide)) hpin)
            clear hpin
            go_wp2_with fail
            refine H.out.mono ?_
            clear H
            rintro e w7 ⟨rfl, hpin, hb⟩
            have B7 := Lib.hid hb
            clear hb
            have H := Lib.hid (cwork_is (m := m) 50 G3.out rfl hpin.cel G2.out (by omega) (by decide))
            clear hpin
            go_wp2_with fail
            refine H.out.mono ?_
            clear H
            rintro e w8 ⟨rfl, ha, hk⟩
            have K8 := Lib.hid hk
            clear hk
            have H := Lib.hid (cused_is G4.out ha)
            clear ha
            go_wp2_with fail
            refine H.out.mono ?_
            clear H
            rintro e w' ⟨rfl, rfl⟩
            go_wp2_with fail
            go_ret
            exact ⟨rfl, Hbel.out.trans ((((((Kept.of_below B3.out K).trans (Kept.of_below B5.out K)).alloc (.cells #[.int .i64 6, .int .i64 0, .int .i64 0, .int .i64 0, .int .i64 0, .int .u64 k, .int .u64 0] 31)).trans (K6.out.trans ((Kept.of_below B7.out K).trans K8.out.less))).mono fun b _ hb => by rw [HK.out]; exact hb).below_of Hbel.out.size)⟩

set_option maxRecDepth 100000 in
theorem lifted (os : Os) (started : os.Started) (H : Type) (enc : TypeId × Value → H) :
    ReturnsInHanded {} Try.checked os 13 .any (Rows.pinsKeepSpec.pre6 enc Try.prog Try.f13 Rows.pinsKeepRow.domain false) (Rows.pinsKeepSpec.post enc Try.prog Try.f13 false true false false) := by
  refine returnsInHanded_of_change (C := Try.checked) own_ started (by kernel_rfl) Try.func13
    (ChangeSpec.witness6 (enc := enc) (C := Try.checked) false ⟨#[], #[.int .i64 0, .int .i64 0], []⟩ 8 (by kernel_rfl) (by kernel_rfl) (by kernel_rfl) (by kernel_rfl)) ?_
  intro W base args ds gs before hval0 hW _ _
  have hval : ∀ (j : Nat) t v, Try.f13.params[j]? = some t → args[j]? = some v → Value.okWide Try.prog W .any base t v := hval0
  have hW' := hW
  obtain ⟨p, q, hA0, hV, rfl, hfz, hnd⟩ := hW
  have hA : DataW.TrodAll enc Try.prog W 0 (fun _ => true) true Try.f13.params.toList args.toList ds p := hA0
  rw [Try.params13] at hA hval
  obtain ⟨v0, vs0, d0, ds0, p0, q0, hargs, rfl, rfl, h0, r0⟩ := trodAll_cons hA
  obtain ⟨v1, vs1, d1, ds1, p1, q1, rfl, rfl, rfl, h1, r1⟩ := trodAll_cons r0
  obtain ⟨rfl, rfl, rfl⟩ := trodAll_nil r1
  obtain rfl : args = #[v0, v1] := by cases args; simp_all
  obtain ⟨a0, rfl, rfl, rfl, w0⟩ := open_int Try.underlying3 (hval 0 3 v0 rfl rfl) h0
  obtain ⟨a1, rfl, rfl, rfl, w1⟩ := open_int Try.underlying3 (hval 1 3 v1 rfl rfl) h1
  clear hA0 hval0
  refine (walk a0 w0 a1 w1 W ).mono fun e W' ⟨he, hg⟩ => ?_
  subst he
  exact ⟨_, rfl, law_post laid_ (by kernel_rfl) rfl hW' hg rfl Try.underlying4 ⟨rfl, rfl, rfl⟩⟩

theorem over : Rows.pinsKeepRow.holds Try.pinned (OpenSpec.ofChange Rows.pinsKeepSpec) :=
  OpenClaim.holds_of_wide 13 Try.f13 rfl rfl rfl rfl rfl rfl rfl ⟨rfl, rfl, rfl, rfl, rfl⟩ rfl rfl rfl rfl rfl (by kernel_rfl) Try.func13 (by kernel_rfl)
    (of_decide_eq_true (by kernel_rfl)) (by unfold Func.isWrapper; first | (rw [if_pos (by decide +kernel)]; kernel_rfl) | (rw [if_neg (by decide +kernel)]; exact ⟨rfl, rfl⟩))
    (fun os started H enc _ => lifted os started H enc)

theorem proved : Rows.PinsKeepSaid :=
  over
#print axioms proved
end Go.Proofs.Ytajkhkgakafgkaa.pinsKeep

