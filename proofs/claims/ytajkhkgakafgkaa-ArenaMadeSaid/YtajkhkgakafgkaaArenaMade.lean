/- ArenaMade holds: what was made, ever, is counted, whatever became of it; what is used is never more than there is. No condition. -/
import Derived.Test.YtajkhkgakafgkaaA8
import Derived.Test.YtajkhkgakafgkaaPure2
import Derived.Test.YtajkhkgakafgkaaLaw
namespace Go.Proofs.Ytajkhkgakafgkaa.arenaMade
open Go.ChangeShapes Go.WideShapes Go.ChangeAt Go.RowKit
set_option linter.unusedVariables false

/-- At the loop's head: j rounds are over. -/
structure At (K : Nat → Prop) (p S j : Nat) (m : Int) (w W : World) (s : Ar) : Prop where
  ars : Ars W K p s
  ok : s.Ok (4 * j)
  n : s.n = S
  wt : s.wt = []
  made : s.made = m
  kept : Kept K w W
def AtE (K : Nat → Prop) (p S j : Nat) (m : Int) (w W : World) : Prop := ∃ s, At K p S j m w W s
theorem used_bd {s : Ar} {B : Int} (h : s.Ok B) : 0 ≤ s.busy ∧ s.busy ≤ s.n := by
  have := h.busy
  have := usedN_le s.n s.u
  omega
set_option maxHeartbeats 2000000 in
theorem walk (n : Int) (w0 : (Lit.int .i64 n).wf = true) (size : Int) (w1 : (Lit.int .i64 size).wf = true) (w : World) :
    Calls Try.prog 4 #[.int .i64 n, .int .i64 size] w fun e w' => e = .returned (.bool true) ∧ Below w.heap.size w w' := by
  have HA := Lib.hid alive6
  obtain ⟨K, hK⟩ : ∃ K : Nat → Prop, K = fun b => b < w.heap.size := ⟨_, rfl⟩
  have HK := Lib.hid hK
  clear hK
  by_cases h3 : n < 0
  · skip
    go_enter Try.func4, Try.ntmps4
    go_wp2_with fail
    refine (HA.out w).mono ?_
    rintro e w1 ⟨rfl, hb⟩
    go_wp2_with fail
    go_ret
    exact ⟨rfl, hb⟩
  by_cases h4 : 100 < n
  · skip
    go_enter Try.func4, Try.ntmps4
    go_wp2_with fail
    refine (HA.out w).mono ?_
    rintro e w1 ⟨rfl, hb⟩
    go_wp2_with fail
    go_ret
    exact ⟨rfl, hb⟩
  by_cases h1 : size < 1
  · skip
    go_enter Try.func4, Try.ntmps4
    go_wp2_with fail
    refine (HA.out w).mono ?_
    rintro e w1 ⟨rfl, hb⟩
    go_wp2_with fail
    go_ret
    exact ⟨rfl, hb⟩
  by_cases h2 : 20 < size
  · skip
    go_enter Try.func4, Try.ntmps4
    go_wp2_with fail
    refine (HA.out w).mono ?_
    rintro e w1 ⟨rfl, hb⟩
    go_wp2_with fail
    go_ret
    exact ⟨rfl, hb⟩
  obtain ⟨S, rfl⟩ := Int.eq_ofNat_of_zero_le (show 0 ≤ size by omega)
  obtain ⟨N, rfl⟩ := Int.eq_ofNat_of_zero_le (show 0 ≤ n by omega)
  go_enter Try.func4, Try.ntmps4
  go_wp2_with fail
  refine (HA.out w).mono ?_
  rintro e w1 ⟨rfl, hb⟩
  have Hk := Lib.hid (Kept.of_below hb K)
  clear hb
  go_wp2_with fail
  refine (new_yes S _ (by omega) (by omega)).mono ?_
  rintro e w2 ⟨p, rfl, hb, ha⟩
  replace ha := ha K (fun b h => by rw [HK.out] at h; have := Hk.out.size; omega)
  replace Hk := Lib.hid (Hk.out.trans (Kept.of_below hb K))
  clear hb
  go_wp2_with fail
  have hS1 : 1 ≤ S := by omega
  have hS2 : S ≤ 20 := by omega
  go_loopw [6, 7] (fun m i W => ∃ (j : Nat) (q : Int), i = .int .i64 j ∧ m = .int .i64 q ∧ j ≤ N ∧ AtE K p S j q w W) (fun _ i _ => N - (intOf i).toNat)
  case atStart => exact ⟨0, 0, rfl, rfl, by omega, Ar.new S, ha, ok_new hS1 (by omega), rfl, rfl, rfl, Hk.out⟩
  case round =>
    obtain ⟨j, q, rfl, rfl, j1, s, hs⟩ := hrel
    clear Hk
    have ha := hs.ars
    have Hk := Lib.hid hs.kept
    have Ho := Lib.hid hs.ok
    have Hn := Lib.hid hs.n
    have Hw := Lib.hid hs.wt
    have Hq := Lib.hid hs.made
    have hm := hs.ok.m
    rw [hs.made] at hm
    obtain ⟨q1, q2⟩ := hm
    clear hs
    by_cases hlt : j < N
    · by_cases hf : s.free = 0
      · have Hm := Lib.hid (make_none (s := s) (x := ⟨1 + (j : Int) % 6, 0, 0, 0, 0, 0, 0⟩) (by show 1 ≤ 1 + (j : Int) % 6 ∧ 1 + (j : Int) % 6 ≤ 6; omega) rfl hf)
        have Hf := Lib.hid hf
        clear hf
        by_cases h3 : (j : Int) % 3 = 2
        · have h3' : ((j : Int) % 3 == 2) = true := by simpa using h3
          have H3 := Lib.hid h3
          clear h3
          have H := Lib.hid (make_is ⟨1 + (j : Int) % 6, 0, 0, 0, 0, 0, 0⟩ Hm.out ha Ho.out (by omega))
          clear ha
          go_wp2_with fail
          refine H.out.mono ?_
          clear H
          rintro e w3 ⟨rfl, ha, hk⟩
          replace Hk := Lib.hid (Hk.out.trans hk)
          clear hk
          obtain ⟨u1, u2⟩ := used_bd Ho.out
          have U2 : s.busy ≤ (S : Int) := by have := Hn.out; omega
          clear u2
          have H := Lib.hid (made_is (c := q) Hq.out ha)
          go_wp2_with fail
          refine H.out.mono ?_
          clear H
          rintro e w' ⟨rfl, rfl⟩
          have H := Lib.hid (used_is rfl ha)
          go_wp2_with fail
          refine H.out.mono ?_
          clear H
          rintro e w' ⟨rfl, rfl⟩
          have H := Lib.hid (used_is rfl ha)
          go_wp2_with fail
          refine H.out.mono ?_
          clear H
          rintro e w' ⟨rfl, rfl⟩
          go_wp2_with fail
          go_roundw
          case rel => exact ⟨j + 1, q, by go_num, rfl, by omega, s, ha, Ho.out.mono (by omega), Hn.out, Hw.out, Hq.out, Hk.out⟩
          case measure => simp [intOf]; omega
        · have h3' : ((j : Int) % 3 == 2) = false := by simpa using h3
          have H3 := Lib.hid h3
          clear h3
          have H := Lib.hid (make_is ⟨1 + (j : Int) % 6, 0, 0, 0, 0, 0, 0⟩ Hm.out ha Ho.out (by omega))
          clear ha
          go_wp2_with fail
          refine H.out.mono ?_
          clear H
          rintro e w3 ⟨rfl, ha, hk⟩
          replace Hk := Lib.hid (Hk.out.trans hk)
          clear hk
          obtain ⟨u1, u2⟩ := used_bd Ho.out
          have U2 : s.busy ≤ (S : Int) := by have := Hn.out; omega
          clear u2
          have H := Lib.hid (made_is (c := q) Hq.out ha)
          go_wp2_with fail
          refine H.out.mono ?_
          clear H
          rintro e w' ⟨rfl, rfl⟩
          have H := Lib.hid (used_is rfl ha)
          go_wp2_with fail
          refine H.out.mono ?_
          clear H
          rintro e w' ⟨rfl, rfl⟩
          have H := Lib.hid (used_is rfl ha)
          go_wp2_with fail
          refine H.out.mono ?_
          clear H
          rintro e w' ⟨rfl, rfl⟩
          go_wp2_with fail
          go_roundw
          case rel => exact ⟨j + 1, q, by go_num, rfl, by omega, s, ha, Ho.out.mono (by omega), Hn.out, Hw.out, Hq.out, Hk.out⟩
          case measure => simp [intOf]; omega
      · have Hm := Lib.hid (make_leaf (s := s) (x := ⟨1 + (j : Int) % 6, 0, 0, 0, 0, 0, 0⟩) (by show 1 ≤ 1 + (j : Int) % 6 ∧ 1 + (j : Int) % 6 ≤ 6; omega) rfl hf)
        have Ho1 : Hid ((s.put s.free ⟨1 + (j : Int) % 6, 0, 0, 0, 0, 0, 0⟩).Ok (4 * j + 4)) := by have := ok_make Ho.out ⟨1 + (j : Int) % 6, 0, 0, 0, 0, 0, 0⟩; rw [Hm.out] at this; exact this
        have f1 : ((s.free : Int) != 0) = true := by simpa using hf
        have f2 : ((s.free : Int) == 0) = false := by simpa using hf
        obtain ⟨t, u, hd, hwk, hu1, hu2, hu3⟩ := leaf_cycle (x := ⟨1 + (j : Int) % 6, 0, 0, 0, 0, 0, 0⟩) Hw.out rfl hf
        have Hf := Lib.hid hf
        clear hf
        by_cases h3 : (j : Int) % 3 = 2
        · have h3' : ((j : Int) % 3 == 2) = true := by simpa using h3
          have H3 := Lib.hid h3
          have Hd := Lib.hid hd
          have Hwk := Lib.hid hwk
          have Ho2 : Hid (t.Ok (4 * j + 4)) := by have := ok_drop Ho1.out s.free; rw [hd] at this; exact this
          have Ho3 : Hid (u.Ok (4 * j + 4)) := by have := ok_work 1 Ho2.out; rw [hwk] at this; exact this
          have Hu1 := Lib.hid hu1
          have Hu2 := Lib.hid (hu2.trans Hn.out)
          have Hu3 : Hid (u.made = q + 1) := by rw [hu3, Hq.out]; exact rfl
          clear h3 hd hwk hu1 hu2 hu3
          have H := Lib.hid (make_is ⟨1 + (j : Int) % 6, 0, 0, 0, 0, 0, 0⟩ Hm.out ha Ho.out (by omega))
          clear ha
          go_wp2_with fail
          refine H.out.mono ?_
          clear H
          rintro e w3 ⟨rfl, ha, hk⟩
          replace Hk := Lib.hid (Hk.out.trans hk)
          clear hk
          have H := Lib.hid (drop_is s.free Hd.out ha (Ho1.out.fit (by omega)))
          clear ha
          go_wp2_with fail
          refine H.out.mono ?_
          clear H
          rintro e w4 ⟨rfl, ha, hk⟩
          replace Hk := Lib.hid (Hk.out.trans hk)
          clear hk
          have H := Lib.hid (work_is (m := 1) 1 Hwk.out rfl ha Ho2.out (by omega) (by decide))
          clear ha
          go_wp2_with fail
          refine H.out.mono ?_
          clear H
          rintro e w5 ⟨rfl, ha, hk⟩
          replace Hk := Lib.hid (Hk.out.trans hk)
          clear hk
          obtain ⟨u1, u2⟩ := used_bd Ho3.out
          have U2 : u.busy ≤ (S : Int) := by have := Hu2.out; omega
          clear u2
          have H := Lib.hid (made_is (c := (q + 1)) Hu3.out ha)
          go_wp2_with fail
          refine H.out.mono ?_
          clear H
          rintro e w' ⟨rfl, rfl⟩
          have H := Lib.hid (used_is rfl ha)
          go_wp2_with fail
          refine H.out.mono ?_
          clear H
          rintro e w' ⟨rfl, rfl⟩
          have H := Lib.hid (used_is rfl ha)
          go_wp2_with fail
          refine H.out.mono ?_
          clear H
          rintro e w' ⟨rfl, rfl⟩
          go_wp2_with fail
          go_roundw
          case rel => exact ⟨j + 1, q + 1, by go_num, rfl, by omega, u, ha, Ho3.out.mono (by omega), Hu2.out, Hu1.out, Hu3.out, Hk.out⟩
          case measure => simp [intOf]; omega
        · have h3' : ((j : Int) % 3 == 2) = false := by simpa using h3
          have H3 := Lib.hid h3
          have Hq1 : Hid ((s.put s.free ⟨1 + (j : Int) % 6, 0, 0, 0, 0, 0, 0⟩).made = q + 1) := by show s.made + 1 = q + 1; rw [Hq.out]
          clear h3 hd hwk hu1 hu2 hu3
          have H := Lib.hid (make_is ⟨1 + (j : Int) % 6, 0, 0, 0, 0, 0, 0⟩ Hm.out ha Ho.out (by omega))
          clear ha
          go_wp2_with fail
          refine H.out.mono ?_
          clear H
          rintro e w3 ⟨rfl, ha, hk⟩
          replace Hk := Lib.hid (Hk.out.trans hk)
          clear hk
          obtain ⟨u1, u2⟩ := used_bd Ho1.out
          have U2 : (s.put s.free ⟨1 + (j : Int) % 6, 0, 0, 0, 0, 0, 0⟩).busy ≤ (S : Int) := by have := (show (s.put s.free ⟨1 + (j : Int) % 6, 0, 0, 0, 0, 0, 0⟩).n = S from Hn.out); omega
          clear u2
          have H := Lib.hid (made_is (c := (q + 1)) Hq1.out ha)
          go_wp2_with fail
          refine H.out.mono ?_
          clear H
          rintro e w' ⟨rfl, rfl⟩
          have H := Lib.hid (used_is rfl ha)
          go_wp2_with fail
          refine H.out.mono ?_
          clear H
          rintro e w' ⟨rfl, rfl⟩
          have H := Lib.hid (used_is rfl ha)
          go_wp2_with fail
          refine H.out.mono ?_
          clear H
          rintro e w' ⟨rfl, rfl⟩
          go_wp2_with fail
          go_roundw
          case rel => exact ⟨j + 1, q + 1, by go_num, rfl, by omega, _, ha, Ho1.out.mono (by omega), Hn.out, Hw.out, Hq1.out, Hk.out⟩
          case measure => simp [intOf]; omega
    · obtain rfl : j = N := by omega
      have H := Lib.hid (size_is (c := S) (by rw [Hn.out]) ha (Ho.out.fit (by omega)))
      go_wp2_with fail
      refine H.out.mono ?_
      clear H
      rintro e w' ⟨rfl, rfl⟩
      have H := Lib.hid (pending_is (c := 0) (by rw [Hw.out]; rfl) ha)
      go_wp2_with fail
      refine H.out.mono ?_
      clear H
      rintro e w' ⟨rfl, rfl⟩
      go_wp2_with fail
      go_ret
      exact ⟨rfl, Hk.out.below fun b hb => by rw [HK.out]; exact hb⟩

set_option maxRecDepth 100000 in
theorem lifted (os : Os) (started : os.Started) (H : Type) (enc : TypeId × Value → H) :
    ReturnsInHanded {} Try.checked os 4 .any (Rows.arenaMadeSpec.pre6 enc Try.prog Try.f4 Rows.arenaMadeRow.domain false) (Rows.arenaMadeSpec.post enc Try.prog Try.f4 false true false false) := by
  refine returnsInHanded_of_change (C := Try.checked) own_ started (by kernel_rfl) Try.func4
    (ChangeSpec.witness6 (enc := enc) (C := Try.checked) false ⟨#[], #[.int .i64 0, .int .i64 0], []⟩ 8 (by kernel_rfl) (by kernel_rfl) (by kernel_rfl) (by kernel_rfl)) ?_
  intro W base args ds gs before hval0 hW _ _
  have hval : ∀ (j : Nat) t v, Try.f4.params[j]? = some t → args[j]? = some v → Value.okWide Try.prog W .any base t v := hval0
  have hW' := hW
  obtain ⟨p, q, hA0, hV, rfl, hfz, hnd⟩ := hW
  have hA : DataW.TrodAll enc Try.prog W 0 (fun _ => true) true Try.f4.params.toList args.toList ds p := hA0
  rw [Try.params4] at hA hval
  obtain ⟨v0, vs0, d0, ds0, p0, q0, hargs, rfl, rfl, h0, r0⟩ := trodAll_cons hA
  obtain ⟨v1, vs1, d1, ds1, p1, q1, rfl, rfl, rfl, h1, r1⟩ := trodAll_cons r0
  obtain ⟨rfl, rfl, rfl⟩ := trodAll_nil r1
  obtain rfl : args = #[v0, v1] := by cases args; simp_all
  obtain ⟨a0, rfl, rfl, rfl, w0⟩ := open_int Try.underlying3 (hval 0 3 v0 rfl rfl) h0
  obtain ⟨a1, rfl, rfl, rfl, w1⟩ := open_int Try.underlying3 (hval 1 3 v1 rfl rfl) h1
  clear hA0 hval0
  refine (walk a0 w0 a1 w1 W).mono fun e W' ⟨he, hg⟩ => ?_
  subst he
  exact ⟨_, rfl, law_post laid_ (by kernel_rfl) rfl hW' hg rfl Try.underlying4 ⟨rfl, rfl, rfl⟩⟩

theorem over : Rows.arenaMadeRow.holds Try.pinned (OpenSpec.ofChange Rows.arenaMadeSpec) :=
  OpenClaim.holds_of_wide 4 Try.f4 rfl rfl rfl rfl rfl rfl rfl ⟨rfl, rfl, rfl, rfl, rfl⟩ rfl rfl rfl rfl rfl (by kernel_rfl) Try.func4 (by kernel_rfl)
    (of_decide_eq_true (by kernel_rfl)) (by unfold Func.isWrapper; first | (rw [if_pos (by decide +kernel)]; kernel_rfl) | (rw [if_neg (by decide +kernel)]; exact ⟨rfl, rfl⟩))
    (fun os started H enc _ => lifted os started H enc)

theorem proved : Rows.ArenaMadeSaid :=
  over
#print axioms proved
end Go.Proofs.Ytajkhkgakafgkaa.arenaMade
