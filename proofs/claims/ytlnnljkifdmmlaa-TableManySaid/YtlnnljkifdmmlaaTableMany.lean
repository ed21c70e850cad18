/- TableMany holds: as many documents as may be; one more is refused; of the same number, too. No condition. -/
import Derived.Test.YtlnnljkifdmmlaaT1
namespace Go.Proofs.Ytlnnljkifdmmlaa.tableMany
open Go.ChangeShapes Go.WideShapes Go.ChangeAt Go.RowKit
set_option linter.unusedVariables false

/-- Documents 1 to k, all empty. -/
def D (k : Nat) : List (Int × Int) := (List.range k).map fun (i : Nat) => ((i : Int) + 1, (0 : Int))
theorem D_len (k : Nat) : (D k).length = k := by simp [D]
theorem D_at {k i : Nat} (h : i < k) : (D k).getD i (0, 0) = ((i : Int) + 1, 0) := by
  rw [List.getD_eq_getElem?_getD, D, List.getElem?_map, List.getElem?_range h]; rfl
theorem D_succ (k : Nat) : D (k + 1) = D k ++ [((k : Int) + 1, 0)] := by simp [D, List.range_succ]
theorem D_new {k : Nat} {id : Int} (h : (k : Int) < id) : Placed (D k) id 0 false := .inr ⟨rfl, rfl, fun i hi e => by
  rw [D_len] at hi
  rw [D_at hi] at e
  have e : (i : Int) + 1 = id := e
  omega⟩
theorem D_one {k : Nat} (h : 1 ≤ k) : Placed (D k) 1 0 true := .inl ⟨rfl, by rw [D_len]; omega, by rw [D_at (by omega)]; rfl, fun i hi => absurd hi (Nat.not_lt_zero _)⟩
theorem D_docs {k : Nat} (h : k ≤ 12) : Docs (D k) := ⟨by rw [D_len]; exact h, fun p hp => by
  obtain ⟨i, hi, rfl⟩ := List.mem_map.1 hp
  have := List.mem_range.1 hi
  exact ⟨⟨by show 0 ≤ (i : Int) + 1; omega, by show (i : Int) + 1 ≤ _; omega⟩, show (0 : Int) ≤ 0 ∧ (0 : Int) ≤ 40 by omega⟩⟩
def At (wx : World) (K : Nat → Prop) (p : Nat) (k : Nat) (h : Int) (W : World) : Prop :=
  ∃ s L, LS wx K p 500 (min (k - 1) 10) s (h :: L) W ∧ Lh s h (D (min (k - 1) 10))
set_option maxRecDepth 100000 in
set_option maxHeartbeats 8000000 in
theorem walk (n : Int) (w0 : (Lit.int .i64 n).wf = true) (w : World) :
    Calls Try.prog 6 #[.int .i64 n] w fun e w' => e = .returned (.bool true) ∧ Below w.heap.size w w' := by
  have HA := Lib.hid alive11
  by_cases h1 : n < 0
  · go_enter Try.func6, Try.ntmps6
    go_wp2_with fail
    refine (HA.out _).mono ?_
    rintro e w1 ⟨rfl, hb⟩
    go_wp2_with fail
    go_ret
    exact ⟨rfl, hb⟩
  by_cases h2 : 20 < n
  · go_enter Try.func6, Try.ntmps6
    go_wp2_with fail
    refine (HA.out _).mono ?_
    rintro e w1 ⟨rfl, hb⟩
    go_wp2_with fail
    go_ret
    exact ⟨rfl, hb⟩
  obtain ⟨N, rfl⟩ := Int.eq_ofNat_of_zero_le (show 0 ≤ n by omega)
  obtain ⟨K, hK⟩ : ∃ K : Nat → Prop, K = fun b => b < w.heap.size := ⟨_, rfl⟩
  have HK := Lib.hid hK
  clear hK
  go_enter Try.func6, Try.ntmps6
  go_wp2_with fail
  refine (HA.out _).mono ?_
  rintro e w1 ⟨rfl, hb⟩
  have Hk := Lib.hid (Kept.of_below hb K)
  clear hb
  go_wp2_with fail
  refine (new_yes 500 _ (by omega) (by omega)).mono ?_
  rintro e w2 ⟨p, rfl, hb, ha⟩
  replace ha := ha K (fun b h => by rw [HK.out] at h; have := Hk.out.size; omega)
  replace Hk := Lib.hid (Hk.out.trans (Kept.of_below hb K))
  clear hb
  have h0 : At w K p 1 0 w2 := ⟨Ar.new 500, [], ⟨ha, ((good_new (by omega) (by omega)).mono (by omega)).zero, rfl, by show (0 : Int) ≤ _; omega, Hk.out⟩, (Lh.nil _ : Lh (Ar.new 500) 0 [])⟩
  have H0 := Lib.hid h0
  clear h0 ha Hk
  go_wp2_with fail
  go_loopw [4, 5] (fun h k W => ∃ (j : Nat) (hh : Int), h = .int .i64 hh ∧ k = .int .i64 j ∧ 1 ≤ j ∧ j ≤ N + 1 ∧ At w K p j hh W) (fun _ k _ => N + 1 - (intOf k).toNat)
  case atStart => exact ⟨1, 0, rfl, rfl, by omega, by omega, H0.out⟩
  case round =>
    obtain ⟨j, hh, rfl, rfl, j1, j2, s, L, hls, hlh⟩ := hrel
    clear H0
    have Hls := Lib.hid hls
    have Hlh := Lib.hid hlh
    clear hls hlh
    by_cases hlt : j ≤ N
    · by_cases h10 : j ≤ 10
      · have em : min (j - 1) 10 = j - 1 := by omega
        rw [em] at Hls Hlh
        have H := Lib.hid (add_is (id := (j : Int)) (len := 0) (D_new (k := j - 1) (by omega)) (by omega) (by omega) (by omega) (by omega) (by rw [D_len]; omega) Hls.out.good (by omega) Hlh.out (.inr (.inl (by simp))) (D_docs (by omega)) (Hls.out.room (by omega)) Hls.out.ars)
        clear em
        go_wp2_with fail
        refine H.out.mono ?_
        clear H
        rintro e w3 ⟨g, s2, rfl, a3, k3, g3, x3, l3, b3⟩
        have H3 := Lib.hid (Hls.out.made a3 k3 g3 x3 b3)
        have L3 := Lib.hid (show Lh s2 g (D j) by
          have := D_succ (j - 1)
          rw [show j - 1 + 1 = j by omega, show ((j - 1 : Nat) : Int) + 1 = j by omega] at this
          rw [this]; exact l3)
        clear a3 k3 g3 x3 l3 b3
        go_wp2_with fail
        go_roundw
        case rel => exact ⟨j + 1, g, rfl, by go_num, by omega, by omega, s2, _, by rw [show min (j + 1 - 1) 10 = j - 1 + 1 by omega]; exact H3.out, by rw [show min (j + 1 - 1) 10 = j by omega]; exact L3.out⟩
        case measure => simp [intOf]; omega
      · have em : min (j - 1) 10 = 10 := by omega
        rw [em] at Hls Hlh
        have H := Lib.hid (add_many (id := (j : Int)) (len := 0) (D_new (k := 10) (by omega)) (by omega) (by omega) (by omega) (by rw [D_len]; omega) Hls.out.good (by omega) Hlh.out (.inr (.inl (by simp))) (D_docs (by omega)) Hls.out.ars)
        clear em
        go_wp2_with fail
        refine H.out.mono ?_
        clear H
        rintro e w3 ⟨rfl, k3⟩
        have H3 := Lib.hid (Hls.out.below k3)
        clear k3
        go_wp2_with fail
        go_roundw
        case rel => exact ⟨j + 1, hh, rfl, by go_num, by omega, by omega, s, _, by rw [show min (j + 1 - 1) 10 = 10 by omega]; exact H3.out, by rw [show min (j + 1 - 1) 10 = 10 by omega]; exact Hlh.out⟩
        case measure => simp [intOf]; omega
    · obtain rfl : j = N + 1 := by omega
      rw [show min (N + 1 - 1) 10 = min N 10 by omega] at Hls Hlh
      by_cases hN : N = 0
      · subst hN
        have H := Lib.hid (add_is (id := 1) (len := 0) (D_new (k := 0) (by omega)) (by omega) (by omega) (by omega) (by omega) (by rw [D_len]; omega) Hls.out.good (by omega) Hlh.out (.inr (.inl (by simp))) (D_docs (by omega)) (Hls.out.room (by omega)) Hls.out.ars)
        go_wp2_with fail
        refine H.out.mono ?_
        clear H
        rintro e w3 ⟨g, s2, rfl, a3, k3, g3, x3, l3, b3⟩
        have H3 := Lib.hid (Hls.out.made a3 k3 g3 x3 b3)
        have L3 := Lib.hid (Hlh.out.ext x3)
        clear a3 k3 g3 x3 l3 b3
        have H5 := fun W hb => Lib.hid (tlen_is (w := W) (n := (min 0 10)) (D_len _) H3.out.good (by omega) L3.out (.inr (.inl (by simp))) (by omega) (H3.out.ars.below hb))
        have B0 := Lib.hid (Below.refl w3.heap.size w3)
        go_wp2_with fail
        refine (H5 _ B0.out).out.mono ?_
        rintro e wy ⟨rfl, _, ky⟩
        go_wp2_with fail
        go_ret
        exact ⟨rfl, (H3.out.kept.mono (K' := fun b => b < w.heap.size) (fun b _ h => by rw [HK.out]; exact h) |>.below_of (Nat.le_refl _)).trans (ky.mono H3.out.kept.size)⟩
      · have H := Lib.hid (add_arg (id := 1) (len := 0) (D_one (k := min N 10) (by omega)) (.inr (.inl rfl)) Hls.out.good (by omega) Hlh.out (.inr (.inl (by simp))) (D_docs (by omega)) Hls.out.ars)
        have hN' : ((N : Int) == 0) = false := by simp; omega
        go_wp2_with fail
        refine H.out.mono ?_
        clear H
        rintro e w3 ⟨rfl, k3⟩
        have H3 := Lib.hid (Hls.out.below k3)
        clear k3
        by_cases hc : N ≤ 10
        · have em : min N 10 = N := by omega
          rw [em] at H3 Hlh
          have hc' : ¬ (10 : Int) < (N : Int) := by omega
          have H5 := fun W hb => Lib.hid (tlen_is (w := W) (n := N) (D_len _) H3.out.good (by omega) Hlh.out (.inr (.inl (by simp))) (by omega) (H3.out.ars.below hb))
          have B0 := Lib.hid (Below.refl w3.heap.size w3)
          go_wp2_with fail
          refine (H5 _ B0.out).out.mono ?_
          rintro e wy ⟨rfl, _, ky⟩
          go_wp2_with fail
          go_ret
          exact ⟨rfl, (H3.out.kept.mono (K' := fun b => b < w.heap.size) (fun b _ h => by rw [HK.out]; exact h) |>.below_of (Nat.le_refl _)).trans (ky.mono H3.out.kept.size)⟩
        · have em : min N 10 = 10 := by omega
          rw [em] at H3 Hlh
          have hc' : (10 : Int) < (N : Int) := by omega
          have H5 := fun W hb => Lib.hid (tlen_is (w := W) (n := 10) (D_len _) H3.out.good (by omega) Hlh.out (.inr (.inl (by simp))) (by omega) (H3.out.ars.below hb))
          have B0 := Lib.hid (Below.refl w3.heap.size w3)
          go_wp2_with fail
          refine (H5 _ B0.out).out.mono ?_
          rintro e wy ⟨rfl, _, ky⟩
          go_wp2_with fail
          go_ret
          exact ⟨rfl, (H3.out.kept.mono (K' := fun b => b < w.heap.size) (fun b _ h => by rw [HK.out]; exact h) |>.below_of (Nat.le_refl _)).trans (ky.mono H3.out.kept.size)⟩

set_option maxRecDepth 100000 in
theorem lifted (os : Os) (started : os.Started) (H : Type) (enc : TypeId × Value → H) :
    ReturnsInHanded {} Try.checked os 6 .any (Rows.tableManySpec.pre6 enc Try.prog Try.f6 Rows.tableManyRow.domain false) (Rows.tableManySpec.post enc Try.prog Try.f6 false true false false) := by
  refine returnsInHanded_of_change (C := Try.checked) own_ started (by kernel_rfl) Try.func6
    (ChangeSpec.witness6 (enc := enc) (C := Try.checked) false ⟨#[], #[.int .i64 0], []⟩ 8 (by kernel_rfl) (by kernel_rfl) (by kernel_rfl) (by kernel_rfl)) ?_
  intro W base args ds gs before hval0 hW _ _
  have hval : ∀ (j : Nat) t v, Try.f6.params[j]? = some t → args[j]? = some v → Value.okWide Try.prog W .any base t v := hval0
  have hW' := hW
  obtain ⟨p, q, hA0, hV, rfl, hfz, hnd⟩ := hW
  have hA : DataW.TrodAll enc Try.prog W 0 (fun _ => true) true Try.f6.params.toList args.toList ds p := hA0
  rw [Try.params6] at hA hval
  obtain ⟨v0, vs0, d0, ds0, p0, q0, hargs, rfl, rfl, h0, r0⟩ := trodAll_cons hA
  obtain ⟨rfl, rfl, rfl⟩ := trodAll_nil r0
  obtain rfl : args = #[v0] := by cases args; simp_all
  obtain ⟨a0, rfl, rfl, rfl, w0⟩ := open_int Try.underlying3 (hval 0 3 v0 rfl rfl) h0
  clear hA0 hval0
  refine (walk a0 w0 W ).mono fun e W' ⟨he, hg⟩ => ?_
  subst he
  exact ⟨_, rfl, law_post laid_ (by kernel_rfl) rfl hW' hg rfl Try.underlying4 ⟨rfl, rfl, rfl⟩⟩

theorem over : Rows.tableManyRow.holds Try.pinned (OpenSpec.ofChange Rows.tableManySpec) :=
  OpenClaim.holds_of_wide 6 Try.f6 rfl rfl rfl rfl rfl rfl rfl ⟨rfl, rfl, rfl, rfl, rfl⟩ rfl rfl rfl rfl rfl (by kernel_rfl) Try.func6 (by kernel_rfl)
    (of_decide_eq_true (by kernel_rfl)) (by unfold Func.isWrapper; first | (rw [if_pos (by decide +kernel)]; kernel_rfl) | (rw [if_neg (by decide +kernel)]; exact ⟨rfl, rfl⟩))
    (fun os started H enc _ => lifted os started H enc)

theorem proved : Rows.TableManySaid :=
  over
#print axioms proved
end Go.Proofs.Ytlnnljkifdmmlaa.tableMany
