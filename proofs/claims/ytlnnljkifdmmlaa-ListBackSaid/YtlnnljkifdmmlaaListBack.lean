/- ListBack holds: an item that is put in, or set, and taken out again, leaves a list as it was; the lists in between stay as they are. No condition. -/
import Derived.Test.YtlnnljkifdmmlaaL25
namespace Go.Proofs.Ytlnnljkifdmmlaa.listBack
open Go.ChangeShapes Go.WideShapes Go.ChangeAt Go.RowKit
set_option linter.unusedVariables false

def At (wx : World) (K : Nat → Prop) (p : Nat) (l : List (Int × Int)) (j : Nat) (hh : Int) (W : World) : Prop :=
  ∃ (s : Ar), LS wx K p 3000 j s [hh] W ∧ Lh s hh (l.take j) ∧ Rg (l.take j)
theorem hlhn {s : Ar} {h : Int} {l : List (Int × Int)} (x : Lh s h l) : 0 ≤ h ∧ h ≤ s.n := by
  obtain ⟨t, a, _⟩ := x
  exact a.range
theorem del_ins {α : Type} {l : List α} {k : Nat} (hk : k ≤ l.length) (y : α) : delL (insL l k y) k = l := by
  have hA : (l.take k).length = k := by rw [List.length_take]; omega
  unfold delL insL
  rw [List.take_left' hA, ← List.drop_drop, List.drop_left' hA]
  simp
theorem ins_at {α : Type} {l : List α} {k : Nat} (hk : k ≤ l.length) (y : α) : (insL l k y)[k]? = some y := by
  unfold insL
  rw [List.getElem?_append_right (by rw [List.length_take]; omega), List.length_take, show k - min k l.length = 0 by omega]
  rfl
theorem set_at {α : Type} {l : List α} {k : Nat} (hk : k < l.length) (y : α) : (setL l k y)[k]? = some y := by
  unfold setL
  rw [List.getElem?_append_right (by rw [List.length_take]; omega), List.length_take, show k - min k l.length = 0 by omega]
  rfl
theorem set_back {α : Type} {l : List α} {k : Nat} (hk : k < l.length) (y d : α) : setL (setL l k y) k (l.getD k d) = l := by
  apply List.ext_getElem?
  intro i
  have h1 := setL_length (y := y) hk
  have h2 := setL_length (l := setL l k y) (k := k) (y := l.getD k d) (by rw [h1]; exact hk)
  by_cases hi : i < l.length
  · have e := setL_getD (l := setL l k y) (k := k) (j := i) (y := l.getD k d) (d := d) (by rw [h1]; exact hk) (by rw [h1]; exact hi)
    have e2 := setL_getD (l := l) (k := k) (j := i) (y := y) (d := d) hk hi
    rw [List.getElem?_eq_getElem (by rw [h2, h1]; exact hi), List.getElem?_eq_getElem hi]
    rw [List.getD_eq_getElem?_getD, List.getElem?_eq_getElem (by rw [h2, h1]; exact hi)] at e
    simp only [Option.getD_some] at e
    rw [e]
    by_cases c : i = k
    · subst c; rw [if_pos rfl, List.getD_eq_getElem?_getD, List.getElem?_eq_getElem hi]; rfl
    · rw [if_neg c, e2, if_neg c, List.getD_eq_getElem?_getD, List.getElem?_eq_getElem hi]; rfl
  · rw [List.getElem?_eq_none (by rw [h2, h1]; omega), List.getElem?_eq_none (by omega)]
theorem Rg.ins {l : List (Int × Int)} {k : Nat} {y : Int × Int} (h : Rg l) (hy : (0 ≤ y.1 ∧ y.1 ≤ 9223372036854775807) ∧ (0 ≤ y.2 ∧ y.2 ≤ 9223372036854775807)) : Rg (insL l k y) := fun q hq => by
  unfold insL at hq
  rcases List.mem_append.1 hq with hq | hq
  · exact h q (List.mem_of_mem_take hq)
  · rcases List.mem_cons.1 hq with rfl | hq
    · exact hy
    · exact h q (List.mem_of_mem_drop hq)
theorem Rg.set {l : List (Int × Int)} {k : Nat} {y : Int × Int} (h : Rg l) (hy : (0 ≤ y.1 ∧ y.1 ≤ 9223372036854775807) ∧ (0 ≤ y.2 ∧ y.2 ≤ 9223372036854775807)) : Rg (setL l k y) := fun q hq => by
  unfold setL at hq
  rcases List.mem_append.1 hq with hq | hq
  · exact h q (List.mem_of_mem_take hq)
  · rcases List.mem_cons.1 hq with rfl | hq
    · exact hy
    · exact h q (List.mem_of_mem_drop hq)
set_option maxRecDepth 100000 in
set_option maxHeartbeats 4000000 in
theorem walk (v : Value) (l : List (Int × Int)) (i : Int) (wi : (Lit.int .i64 i).wf = true) (xa xb : Int) (wxa : (Lit.int .i64 xa).wf = true) (wxb : (Lit.int .i64 xb).wf = true) (w : World) (hx : ItemsArg w v l) :
    Calls Try.prog 7 #[v, .int .i64 i, .agg #[.int .i64 xa, .int .i64 xb]] w fun e w' => e = .returned (.bool true) ∧ Below w.heap.size w w' := by
  have HA := Lib.hid alive10
  obtain ⟨va, vc, rfl⟩ := hx.items.val
  have hl := hx.len
  unfold maxLen at hl
  have Hx := Lib.hid hx
  obtain ⟨n, hn⟩ : ∃ n, Hid (l.length = n) := ⟨_, rfl⟩
  rw [hn.out] at hl ⊢
  clear hx
  by_cases h2 : 60 < n
  · have h2' : decide ((60 : Int) < (n : Int)) = true := decide_eq_true (by omega)
    go_enter Try.func7, Try.ntmps7
    go_wp2_with fail
    refine (HA.out _).mono ?_
    rintro e w1 ⟨rfl, hb⟩
    go_wp2_with fail
    go_ret
    exact ⟨rfl, ((Below.refl _ _).alloc (Nat.le_refl _) _).trans (hb.mono (by simp))⟩
  by_cases h3 : xa < 0
  · skip
    go_enter Try.func7, Try.ntmps7
    go_wp2_with fail
    refine (HA.out _).mono ?_
    rintro e w1 ⟨rfl, hb⟩
    go_wp2_with fail
    go_ret
    exact ⟨rfl, ((Below.refl _ _).alloc (Nat.le_refl _) _).trans (hb.mono (by simp))⟩
  by_cases h4 : xb < 0
  · skip
    go_enter Try.func7, Try.ntmps7
    go_wp2_with fail
    refine (HA.out _).mono ?_
    rintro e w1 ⟨rfl, hb⟩
    go_wp2_with fail
    go_ret
    exact ⟨rfl, ((Below.refl _ _).alloc (Nat.le_refl _) _).trans (hb.mono (by simp))⟩
  obtain ⟨K, hK⟩ : ∃ K : Nat → Prop, K = fun b => b ≤ w.heap.size := ⟨_, rfl⟩
  have HK := Lib.hid hK
  clear hK
  have hxb := heap_alloc_new w (.cells #[.int .i64 xa, .int .i64 xb] 24)
  have hwx := (Below.refl w.heap.size w).alloc (Nat.le_refl _) (.cells #[.int .i64 xa, .int .i64 xb] 24)
  have hsz : (w.alloc (.cells #[.int .i64 xa, .int .i64 xb] 24)).heap.size = w.heap.size + 1 := by simp
  go_enter Try.func7, Try.ntmps7
  go_wp2_with fail
  refine (HA.out _).mono ?_
  rintro e w1 ⟨rfl, hb⟩
  generalize w.alloc (.cells #[.int .i64 xa, .int .i64 xb] 24) = wx at *
  have Hxb := Lib.hid hxb
  have Hwx := Lib.hid hwx
  have Hsz := Lib.hid hsz
  clear hxb hwx hsz
  have Hk := Lib.hid (Kept.of_below hb K)
  clear hb
  go_wp2_with fail
  refine (new_yes 3000 _ (by omega) (by omega)).mono ?_
  rintro e w2 ⟨p, rfl, hb, ha⟩
  replace ha := ha K (fun b h => by rw [HK.out] at h; have := Hk.out.size; have := Hsz.out; omega)
  replace Hk := Lib.hid (Hk.out.trans (Kept.of_below hb K))
  clear hb
  have h0 : At wx K p l 0 0 w2 := ⟨Ar.new 3000, ⟨ha, ((good_new (by omega) (by omega)).mono (by omega)).zero, rfl, by show (0 : Int) ≤ _; omega, Hk.out⟩, Lh.nil _, fun x hx => (by cases hx)⟩
  have H0 := Lib.hid h0
  clear h0 ha Hk
  have g1 : xa ≤ 9223372036854775807 := (bounds_i64 wxa).2
  have g2 : xb ≤ 9223372036854775807 := (bounds_i64 wxb).2
  go_wp2_with fail
  go_loopw [8, 47] (fun h i W => ∃ (j : Nat) (hh : Int), h = .int .i64 hh ∧ i = .int .i64 j ∧ j ≤ n ∧ At wx K p l j hh W) (fun _ i _ => n - (intOf i).toNat)
  case atStart => exact ⟨0, 0, rfl, rfl, by omega, H0.out⟩
  case round =>
    obtain ⟨j, hh, rfl, rfl, j1, hat⟩ := hrel
    clear H0
    have Hat := Lib.hid hat
    clear hat
    by_cases hlt : j < n
    · obtain ⟨b, off, c, e, hbw, hc, hcell⟩ := Hx.out.items.cell j (by rw [hn.out]; exact hlt)
      rw [hn.out] at hc
      have hce := hcell j (by rw [hn.out]; exact hlt)
      have hva : va = some ⟨b, off, none⟩ := by injection e
      subst hva
      have hvc : n ≤ vc := by injection e with _ _ e; rw [e]; exact hc
      have hyl := Lib.hid (take_nextD (d := ((0 : Int), (0 : Int))) (show j < l.length by rw [hn.out]; exact hlt))
      have hyw := Hx.out.wf (l.getD j (0, 0)) (by rw [List.getD_eq_getElem?_getD, List.getElem?_eq_getElem (by rw [hn.out]; exact hlt)]; exact List.getElem_mem _)
      have htl := Lib.hid (show (l.take j).length = j by rw [List.length_take, hn.out]; omega)
      clear hcell e
      generalize l.getD j (0, 0) = y at *
      obtain ⟨ya, yb⟩ := y
      obtain ⟨s, hls, hlh, hrg⟩ := Hat.out
      have hbx : b < wx.heap.size := Nat.lt_of_lt_of_le hbw Hwx.out.size
      have hKb : K b := by rw [HK.out]; exact Nat.le_of_lt hbw
      have c0 : wr.cell? ⟨b, off + j * 2, none⟩ = some (.int .i64 ya) := (hls.kept.cell hbx hKb).trans ((Hwx.out.cell (p := ⟨b, _, none⟩) hbw).trans hce.1)
      have c1 : wr.cell? ⟨b, off + j * 2 + 1, none⟩ = some (.int .i64 yb) := (hls.kept.cell hbx hKb).trans ((Hwx.out.cell (p := ⟨b, _, none⟩) hbw).trans hce.2)
      have Hls := Lib.hid hls
      have Hlh := Lib.hid hlh
      have Hfm := Lib.hid (show hh = 0 ∨ Firm s [hh] hh from .inr (.inl (by simp)))
      have Hrg := Lib.hid hrg
      clear hls hlh hrg hce Hat
      have Ha := Lib.hid (Hls.out.ars.allocK (.cells #[.int .i64 ya, .int .i64 yb] 24))
      have hz := heap_alloc_new wr (.cells #[.int .i64 ya, .int .i64 yb] 24)
      by_cases hbad : ya < 0 ∨ yb < 0
      · have hb1 := Hls.out.kept
        have hb2 := Lib.hid (show Below w.heap.size w wr from Hwx.out.trans ((hb1.mono (K' := fun b => b < w.heap.size) (fun b _ h => by rw [HK.out]; exact Nat.le_of_lt h)).below_of Hwx.out.size))
        clear hb1
        have hor : ya < 0 ∨ (0 ≤ ya ∧ yb < 0) := by omega
        clear hbad
        rcases hor with hy | ⟨hy, hy2⟩
        all_goals
          go_wp2_with fail
          go_ret
          exact ⟨rfl, hb2.out.alloc hb2.out.size _⟩
      · have y1 : 0 ≤ ya := by omega
        have y2 : 0 ≤ yb := by omega
        have y3 : ya ≤ 9223372036854775807 := (bounds_i64 hyw.1).2
        have y4 : yb ≤ 9223372036854775807 := (bounds_i64 hyw.2).2
        have H := Lib.hid (insert_is (x := ya) (y := yb) (i := j) Hls.out.good (by omega) Hlh.out Hfm.out (by rw [htl.out]; omega) (by rw [htl.out]; omega) ⟨y1, y3⟩ ⟨y2, y4⟩ (Hls.out.room (by omega)) Ha.out)
        clear hbad
        go_wp2_with fail
        refine H.out.mono ?_
        clear H
        rintro e w3 ⟨gg, s', rfl, ha3, hk3, g3, x3, l3, b3⟩
        have H3 := Lib.hid (Hls.out.made (ha3.more fun b hb => .inl hb) (((Kept.refl K wr).alloc _).trans (hk3.mono fun b _ hb => .inl hb)) g3 x3 b3)
        have L3 := Lib.hid (show Lh s' gg (l.take (j + 1)) by
          have := insL_end (l := l.take j) (y := (ya, yb))
          rw [htl.out] at this
          rw [hyl.out, ← this]
          exact l3)
        have R3 := Lib.hid (show Rg (l.take (j + 1)) from fun q hq => by
          rw [hyl.out] at hq
          rcases List.mem_append.1 hq with hq | hq
          · exact Hrg.out q hq
          · simp at hq; subst hq; exact ⟨⟨y1, y3⟩, ⟨y2, y4⟩⟩)
        have hx0 := hlhn Hlh.out
        have Nx := Lib.hid x3.n
        clear ha3 hk3 g3 x3 l3 b3
        by_cases h0 : hh = 0
        · subst h0
          have H4 := Lib.hid (H3.out.perm (L' := [gg]) fun k hk => by simp only [cnt_cons]; rw [if_neg (by omega : ¬ (0 : Int) = (k : Int))]; rfl)
          have H := Lib.hid (work_is (s' := (s'.work 1073741824).1) (n := (s'.work 1073741824).2) 1073741824 rfl rfl H4.out.ars H4.out.good.ok (by omega) (by omega))
          go_wp2_with fail
          refine H.out.mono ?_
          clear H
          rintro e w4 ⟨rfl, ha4, hk4⟩
          have H5 := Lib.hid (H4.out.work ha4 hk4)
          have L5 := Lib.hid (L3.out.work H4.out.good (.inr (by simp)) 1073741824)
          clear ha4 hk4
          generalize (s'.work 1073741824).1 = s5 at *
          go_wp2_with fail
          go_roundw
          case rel => exact ⟨j + 1, gg, rfl, by go_num, by omega, s5, H5.out, L5.out, R3.out⟩
          case measure => simp [intOf]; omega
        · have h0' : (hh == 0) = false := by simpa using h0
          have hn1 : (hh != 0) = true := by simpa using h0
          have H4 := Lib.hid (H3.out.perm (L' := [hh, gg]) fun k hk => by simp only [cnt_cons]; omega)
          have H := Lib.hid (drop_is (s' := (s'.drop hh).1) (e := (s'.drop hh).2) hh rfl H4.out.ars (H4.out.good.ok.fit (by omega)))
          go_wp2_with fail
          refine H.out.mono ?_
          clear H
          rintro e w4 ⟨rfl, ha4, hk4⟩
          have H5 := Lib.hid (H4.out.drop hx0.1 (by rw [Nx.out]; exact hx0.2) ha4 hk4)
          have L5 := Lib.hid (L3.out.drop hh)
          clear ha4 hk4
          generalize (s'.drop hh).1 = s5 at *
          have H := Lib.hid (work_is (s' := (s5.work 1073741824).1) (n := (s5.work 1073741824).2) 1073741824 rfl rfl H5.out.ars H5.out.good.ok (by omega) (by omega))
          go_wp2_with fail
          refine H.out.mono ?_
          clear H
          rintro e w6 ⟨rfl, ha6, hk6⟩
          have H7 := Lib.hid (H5.out.work ha6 hk6)
          have L7 := Lib.hid (L5.out.work H5.out.good (.inr (by simp)) 1073741824)
          clear ha6 hk6
          generalize (s5.work 1073741824).1 = s7 at *
          go_wp2_with fail
          go_roundw
          case rel => exact ⟨j + 1, gg, rfl, by go_num, by omega, s7, H7.out, L7.out, R3.out⟩
          case measure => simp [intOf]; omega
    · obtain rfl : n = j := by omega
      obtain ⟨s, hls, hlh, hrg⟩ := Hat.out
      rw [← hn.out, List.take_length] at hlh hrg
      have Hls := Lib.hid hls
      have Hlh := Lib.hid hlh
      have Hrg := Lib.hid hrg
      have hxk : wr.heap[w.heap.size]? = some (.cells #[.int .i64 xa, .int .i64 xb] 24 (0, 0)) := (hls.kept.block _ (by have := Hsz.out; omega) (by rw [HK.out]; exact Nat.le_refl _)).trans Hxb.out
      have x0 : wr.cell? ⟨w.heap.size, 0, none⟩ = some (.int .i64 xa) := cell_of_row _ _ _ _ _ _ hxk
      have x1 : wr.cell? ⟨w.heap.size, 1, none⟩ = some (.int .i64 xb) := cell_of_row _ _ _ _ _ _ hxk
      clear hls hlh hrg Hat hxk
      as_aux_lemma =>
        obtain ⟨b1, b2, b3, b4⟩ := pick i ((n : Int) + 1) (by omega)
        obtain ⟨k, hk⟩ := Int.eq_ofNat_of_zero_le (show 0 ≤ (i.tmod ((n : Int) + 1) + n + 1) % ((n : Int) + 1) from Int.emod_nonneg _ (by omega))
        have hkn : k ≤ n := by have := Int.emod_lt_of_pos (i.tmod ((n : Int) + 1) + n + 1) (show 0 < (n : Int) + 1 by omega); omega
        clear b1 b2
        have hkl := Lib.hid (show k ≤ l.length by rw [hn.out]; exact hkn)
        have H := Lib.hid (insert_is (x := xa) (y := xb) (i := k) Hls.out.good (by omega) Hlh.out (.inr (.inl (by simp))) (by rw [hn.out]; omega) hkl.out ⟨h3, g1⟩ ⟨h4, g2⟩ (Hls.out.room (by omega)) Hls.out.ars)
        go_wp2_with fail
        refine H.out.mono ?_
        clear H
        rintro e wa ⟨ga, sa, rfl, ha3, hk3, g3, x3, l3, b5⟩
        have Ka := Lib.hid hk3
        have Ha := Lib.hid (Hls.out.made ha3 hk3 g3 x3 b5)
        have La := Lib.hid l3
        have Lh1 := Lib.hid (Hlh.out.ext x3)
        have hla := Lib.hid (show (insL l k (xa, xb)).length = n + 1 by rw [insL_length hkl.out, hn.out])
        have Ra := Lib.hid (Rg.ins Hrg.out (k := k) (y := (xa, xb)) ⟨⟨h3, g1⟩, ⟨h4, g2⟩⟩)
        clear ha3 hk3 g3 x3 b5 l3
        have H := Lib.hid (delete_is (i := k) Ha.out.good (by omega) La.out (.inl (by simp)) (by rw [hla.out]; omega) (by rw [hla.out]; omega) (Ha.out.room (by omega)) Ha.out.ars)
        go_wp2_with fail
        refine H.out.mono ?_
        clear H
        rintro e wb ⟨gb, sb, rfl, ha3, hk3, g3, x3, l3, b5⟩
        rw [del_ins hkl.out] at l3
        have Kb := Lib.hid (Ka.out.trans hk3)
        have Hb := Lib.hid (Ha.out.made ha3 hk3 g3 x3 b5)
        have Lb := Lib.hid l3
        have La2 := Lib.hid (La.out.ext x3)
        have Lh2 := Lib.hid (Lh1.out.ext x3)
        have y0_b : wb.cell? ⟨w.heap.size, 0, none⟩ = some (.int .i64 xa) := kept_cell Kb.out (by rw [HK.out]; exact Nat.le_refl _) x0
        have y1_b : wb.cell? ⟨w.heap.size, 1, none⟩ = some (.int .i64 xb) := kept_cell Kb.out (by rw [HK.out]; exact Nat.le_refl _) x1
        clear ha3 hk3 g3 x3 b5 l3
        have HG := Lib.hid (get_at (i := k) (ins_at hkl.out (xa, xb)) Hb.out.good (by omega) La2.out (.inr (.inl (by simp))) (by rw [hla.out]; omega) Ra.out Hb.out.ars)
        have HA1 := fun W hb => Lib.hid (all_is (w := W) Hb.out.good (by omega) Lb.out (.inr (.inl (by simp))) (by rw [hn.out]; omega) Hrg.out (Hb.out.ars.below hb))
        have HA2 := fun W hb => Lib.hid (all_is (w := W) Hb.out.good (by omega) Lh2.out (.inr (.inl (by simp))) (by rw [hn.out]; omega) Hrg.out (Hb.out.ars.below hb))
        have HKb := Lib.hid (show ∀ b, b < w.heap.size → K b from fun b hb => by rw [HK.out]; exact Nat.le_of_lt hb)
        have Ib := Lib.hid (Hx.out.kept Hwx.out Hb.out.kept HKb.out)
        go_wp2_with fail
        refine HG.out.mono ?_
        clear HG
        rintro e wc ⟨rfl, kc⟩
        have Bc := Lib.hid (kc.alloc kc.size (.cells #[.int .i64 xa, .int .i64 xb] 24))
        have z0 : wc.cell? ⟨w.heap.size, 0, none⟩ = some (.int .i64 xa) := (kc.cell (p := ⟨_, 0, none⟩) (block_lt_of_cell y0_b)).trans y0_b
        have z1 : wc.cell? ⟨w.heap.size, 1, none⟩ = some (.int .i64 xb) := (kc.cell (p := ⟨_, 1, none⟩) (block_lt_of_cell y1_b)).trans y1_b
        have zlt : w.heap.size < wc.heap.size := by have := block_lt_of_cell z0; exact this
        have Y0 := Lib.hid y0_b
        have Y1 := Lib.hid y1_b
        clear kc y0_b y1_b
        go_wp2_with fail
        refine (HA1 _ Bc.out).out.mono ?_
        clear HA1
        rintro e wd ⟨v1, rfl, o1, k6⟩
        have J1 := Lib.hid (Items.own o1)
        have B6 := Lib.hid (Bc.out.trans (k6.mono Bc.out.size))
        have I6 := Lib.hid (Ib.out.below B6.out)
        clear o1 k6
        go_wp2_with fail
        refine (same_true J1.out (by rw [hn.out] at I6; exact I6.out) (by rw [hn.out]; omega)).mono ?_
        rintro e we ⟨rfl, k7⟩
        have B7 := Lib.hid (B6.out.trans (k7.mono B6.out.size))
        clear k7
        go_wp2_with fail
        refine (HA2 _ B7.out).out.mono ?_
        clear HA2
        rintro e wf ⟨v2, rfl, o2, k8⟩
        have J2 := Lib.hid (Items.own o2)
        have B8 := Lib.hid (B7.out.trans (k8.mono B7.out.size))
        have I8 := Lib.hid (Ib.out.below B8.out)
        clear o2 k8
        go_wp2_with fail
        refine (same_true J2.out (by rw [hn.out] at I8; exact I8.out) (by rw [hn.out]; omega)).mono ?_
        rintro e wg ⟨rfl, k9⟩
        have B9 := Lib.hid (B8.out.trans (k9.mono B8.out.size))
        clear k9
        have BW := Lib.hid (show Below w.heap.size w wg from (Hwx.out.trans ((Hb.out.kept.mono (K' := fun b => b < w.heap.size) (fun b _ h => HKb.out b h)).below_of Hwx.out.size)).trans (B9.out.mono (by have := Hb.out.kept.size; have := Hwx.out.size; omega)))
        by_cases hke : k = n
        · have hke' : ((k : Int) == (n : Int)) = true := by simp; omega
          go_wp2_with fail
          go_ret
          exact ⟨rfl, BW.out⟩
        have hke' : ((k : Int) == (n : Int)) = false := by simp; omega
        have hk2 : k < l.length := by rw [hn.out]; omega
        have Hk2 := Lib.hid hk2
        have Hg := Lib.hid (Hb.out.below B9.out)
        have u0 : wg.cell? ⟨w.heap.size, 0, none⟩ = some (.int .i64 xa) := (B9.out.cell (p := ⟨_, 0, none⟩) (block_lt_of_cell Y0.out)).trans Y0.out
        have u1 : wg.cell? ⟨w.heap.size, 1, none⟩ = some (.int .i64 xb) := (B9.out.cell (p := ⟨_, 1, none⟩) (block_lt_of_cell Y1.out)).trans Y1.out
        have H := Lib.hid (set_is (x := xa) (y := xb) (i := k) Hg.out.good (by omega) Lh2.out (.inl (by simp)) (by rw [hn.out]; omega) hk2 ⟨h3, g1⟩ ⟨h4, g2⟩ (Hg.out.room (by omega)) Hg.out.ars)
        clear hk2
        go_wp2_with fail
        refine H.out.mono ?_
        clear H
        rintro e wh ⟨gs, ss, rfl, ha3, hk3, g3, x3, l3, b5⟩
        have Hs := Lib.hid (Hg.out.made ha3 hk3 g3 x3 b5)
        have Ls := Lib.hid l3
        have Lh3 := Lib.hid (Lh2.out.ext x3)
        have hls := Lib.hid (show (setL l k (xa, xb)).length = n by rw [setL_length Hk2.out, hn.out])
        have Rs := Lib.hid (Rg.set Hrg.out (k := k) (y := (xa, xb)) ⟨⟨h3, g1⟩, ⟨h4, g2⟩⟩)
        have v0 : wh.cell? ⟨w.heap.size, 0, none⟩ = some (.int .i64 xa) := kept_cell hk3 (by rw [HK.out]; exact Nat.le_refl _) u0
        have v1 : wh.cell? ⟨w.heap.size, 1, none⟩ = some (.int .i64 xb) := kept_cell hk3 (by rw [HK.out]; exact Nat.le_refl _) u1
        clear ha3 hk3 g3 x3 b5 l3 u0 u1
        have HG := Lib.hid (get_at (i := k) (set_at Hk2.out (xa, xb)) Hs.out.good (by omega) Ls.out (.inr (.inl (by simp))) (by rw [hls.out]; omega) Rs.out Hs.out.ars)
        go_wp2_with fail
        refine HG.out.mono ?_
        clear HG
        rintro e wi ⟨rfl, ki⟩
        have Bi := Lib.hid (ki.alloc ki.size (.cells #[.int .i64 xa, .int .i64 xb] 24))
        have t0 : wi.cell? ⟨w.heap.size, 0, none⟩ = some (.int .i64 xa) := (ki.cell (p := ⟨_, 0, none⟩) (block_lt_of_cell v0)).trans v0
        have t1 : wi.cell? ⟨w.heap.size, 1, none⟩ = some (.int .i64 xb) := (ki.cell (p := ⟨_, 1, none⟩) (block_lt_of_cell v1)).trans v1
        have Ii := Lib.hid ((Hx.out.kept Hwx.out Hs.out.kept HKb.out).below ki)
        obtain ⟨b, off, c, e, hbw, hc, hcell⟩ := Ii.out.cell k Hk2.out
        have hce := hcell k Hk2.out
        have hva : va = some ⟨b, off, none⟩ := by injection e
        subst hva
        have hvc : n ≤ vc := by injection e with _ _ e; rw [e, ← hn.out]; exact hc
        obtain ⟨c0, c1⟩ := hce
        have hry := Hrg.out.at_ Hk2.out
        have hsb := Lib.hid (set_back Hk2.out (xa, xb) ((0 : Int), (0 : Int)))
        have zb : w.heap.size < wi.heap.size := by have := block_lt_of_cell v0; have := ki.size; dsimp only at *; omega
        have Ki := Lib.hid ki
        clear ki v0 v1 hcell e
        generalize l.getD k (0, 0) = y at *
        obtain ⟨ya, yb⟩ := y
        obtain ⟨⟨q1, q2⟩, ⟨q3, q4⟩⟩ := hry
        dsimp only at c0 c1 q1 q2 q3 q4
        have hbi : b < wi.heap.size := hbw
        have Hj := Lib.hid (Hs.out.below Bi.out)
        have H := Lib.hid (set_is (x := ya) (y := yb) (i := k) Hj.out.good (by omega) Ls.out (.inl (by simp)) (by rw [hls.out]; omega) (by rw [hls.out]; have := Hk2.out; rw [hn.out] at this; exact this) ⟨q1, q2⟩ ⟨q3, q4⟩ (Hj.out.room (by omega)) ((Hs.out.below Ki.out).ars.allocK (.cells #[.int .i64 xa, .int .i64 xb] 24)))
        have hk3' : k < n := by have := Hk2.out; rw [hn.out] at this; exact this
        go_wp2_with fail
        refine H.out.mono ?_
        clear H
        rintro e wk ⟨gk2, sk, rfl, ha3, hk3, g3, x3, l3, b5⟩
        rw [hsb.out] at l3
        have Hk := Lib.hid (Hj.out.made (ha3.more fun b hb => .inl hb) (hk3.mono fun b _ hb => .inl hb) g3 x3 b5)
        have Lk := Lib.hid l3
        have Lh4 := Lib.hid (Lh3.out.ext x3)
        have hxi : wi.heap.size < wk.heap.size := by have := hk3.size; simp at this; omega
        have s0 : wk.cell? ⟨w.heap.size, 0, none⟩ = some (.int .i64 xa) := kept_cell hk3 (.inl (by rw [HK.out]; exact Nat.le_refl _)) ((cell_old zb).trans t0)
        have s1 : wk.cell? ⟨w.heap.size, 1, none⟩ = some (.int .i64 xb) := kept_cell hk3 (.inl (by rw [HK.out]; exact Nat.le_refl _)) ((cell_old zb).trans t1)
        have r0 : wk.cell? ⟨wi.heap.size, 0, none⟩ = some (.int .i64 xa) := kept_cell hk3 (.inr rfl) (cell_new rfl rfl)
        have r1 : wk.cell? ⟨wi.heap.size, 1, none⟩ = some (.int .i64 xb) := kept_cell hk3 (.inr rfl) (cell_new rfl rfl)
        clear ha3 hk3 g3 x3 b5 l3 t0 t1 c0 c1 zb
        have HA1 := fun W hb => Lib.hid (all_is (w := W) Hk.out.good (by omega) Lk.out (.inr (.inl (by simp))) (by rw [hn.out]; omega) Hrg.out (Hk.out.ars.below hb))
        have HA2 := fun W hb => Lib.hid (all_is (w := W) Hk.out.good (by omega) Lh4.out (.inr (.inl (by simp))) (by rw [hn.out]; omega) Hrg.out (Hk.out.ars.below hb))
        have Ik := Lib.hid (Hx.out.kept Hwx.out Hk.out.kept HKb.out)
        have B0 := Lib.hid (Below.refl wk.heap.size wk)
        go_wp2_with fail
        refine (HA1 _ B0.out).out.mono ?_
        clear HA1
        rintro e wl ⟨v3, rfl, o1, k6⟩
        have J3 := Lib.hid (Items.own o1)
        have B10 := Lib.hid k6
        have I10 := Lib.hid (Ik.out.below k6)
        clear o1 k6
        go_wp2_with fail
        refine (same_true J3.out (by rw [hn.out] at I10; exact I10.out) (by rw [hn.out]; omega)).mono ?_
        rintro e wm ⟨rfl, k7⟩
        have B11 := Lib.hid (B10.out.trans (k7.mono B10.out.size))
        clear k7
        go_wp2_with fail
        refine (HA2 _ B11.out).out.mono ?_
        clear HA2
        rintro e wn ⟨v4, rfl, o2, k8⟩
        have J4 := Lib.hid (Items.own o2)
        have B12 := Lib.hid (B11.out.trans (k8.mono B11.out.size))
        have I12 := Lib.hid (Ik.out.below B12.out)
        clear o2 k8
        go_wp2_with fail
        refine (same_true J4.out (by rw [hn.out] at I12; exact I12.out) (by rw [hn.out]; omega)).mono ?_
        rintro e wo ⟨rfl, k9⟩
        have B13 := Lib.hid (B12.out.trans (k9.mono B12.out.size))
        clear k9
        go_wp2_with fail
        go_ret
        exact ⟨rfl, (Hwx.out.trans ((Hk.out.kept.mono (K' := fun b => b < w.heap.size) (fun b _ h => HKb.out b h)).below_of Hwx.out.size)).trans (B13.out.mono (by have := Hk.out.kept.size; have := Hwx.out.size; omega))⟩

set_option maxRecDepth 100000 in
theorem lifted (os : Os) (started : os.Started) (H : Type) (enc : TypeId × Value → H) :
    ReturnsInHanded {} Try.checked os 7 .any (Rows.listBackSpec.pre6 enc Try.prog Try.f7 Rows.listBackRow.domain false) (Rows.listBackSpec.post enc Try.prog Try.f7 false true false false) := by
  refine returnsInHanded_of_change (C := Try.checked) own_ started (by kernel_rfl) Try.func7
    (ChangeSpec.witness6 (enc := enc) (C := Try.checked) false ⟨#[], #[.slice none 0 0, .int .i64 0, .agg #[.int .i64 0, .int .i64 0]], []⟩ 8 (by kernel_rfl) (by kernel_rfl) (by kernel_rfl) (by kernel_rfl)) ?_
  intro W base args ds gs before hval0 hW _ _
  have hval : ∀ (j : Nat) t v, Try.f7.params[j]? = some t → args[j]? = some v → Value.okWide Try.prog W .any base t v := hval0
  have hW' := hW
  obtain ⟨p, q, hA0, hV, rfl, hfz, hnd⟩ := hW
  have hA : DataW.TrodAll enc Try.prog W 0 (fun _ => true) true Try.f7.params.toList args.toList ds p := hA0
  rw [Try.params7] at hA hval
  obtain ⟨v0, vs0, d0, ds0, p0, q0, hargs, rfl, rfl, h0, r0⟩ := trodAll_cons hA
  obtain ⟨v1, vs1, d1, ds1, p1, q1, rfl, rfl, rfl, h1, r1⟩ := trodAll_cons r0
  obtain ⟨v2, vs2, d2, ds2, p2, q2, rfl, rfl, rfl, h2, r2⟩ := trodAll_cons r1
  obtain ⟨rfl, rfl, rfl⟩ := trodAll_nil r2
  obtain rfl : args = #[v0, v1, v2] := by cases args; simp_all
  obtain ⟨_, _, hf0⟩ := flat_arg (ks := itemKs) (n := 5) Try.underlying22 (by kernel_rfl) (by kernel_rfl) (by decide) (hval 0 22 v0 rfl rfl) h0
  obtain ⟨x0, hx0⟩ := items_arg hf0
  obtain ⟨a1, rfl, rfl, rfl, w1⟩ := open_int Try.underlying3 (hval 1 3 v1 rfl rfl) h1
  obtain ⟨xa2, xb2, rfl, wa2, wb2⟩ := item_arg Try.underlying24 (by kernel_rfl) (hval 2 24 v2 rfl rfl) h2
  clear hA0 hval0
  refine (walk v0 x0 a1 w1 xa2 xb2 wa2 wb2 W hx0).mono fun e W' ⟨he, hg⟩ => ?_
  subst he
  exact ⟨_, rfl, law_post laid_ (by kernel_rfl) rfl hW' hg rfl Try.underlying4 ⟨rfl, rfl, rfl⟩⟩

theorem over : Rows.listBackRow.holds Try.pinned (OpenSpec.ofChange Rows.listBackSpec) :=
  OpenClaim.holds_of_wide 7 Try.f7 rfl rfl rfl rfl rfl rfl rfl ⟨rfl, rfl, rfl, rfl, rfl⟩ rfl rfl rfl rfl rfl (by kernel_rfl) Try.func7 (by kernel_rfl)
    (of_decide_eq_true (by kernel_rfl)) (by unfold Func.isWrapper; first | (rw [if_pos (by decide +kernel)]; kernel_rfl) | (rw [if_neg (by decide +kernel)]; exact ⟨rfl, rfl⟩))
    (fun os started H enc _ => lifted os started H enc)

theorem proved : Rows.ListBackSaid :=
  over
#print axioms proved
end Go.Proofs.Ytlnnljkifdmmlaa.listBack
