/- ListSets holds: set in one place a list is as it was in all others. No condition. -/
import Derived.Test.YtlnnljkifdmmlaaL24
namespace Go.Proofs.Ytlnnljkifdmmlaa.listSets
open Go.ChangeShapes Go.WideShapes Go.ChangeAt Go.RowKit
set_option linter.unusedVariables false

def At (wx : World) (K : Nat → Prop) (p : Nat) (l : List (Int × Int)) (j : Nat) (hh : Int) (W : World) : Prop :=
  ∃ (s : Ar) (L : List Int), LS wx K p 3000 j s L W ∧ Lh s hh (l.take j) ∧ (hh = 0 ∨ hh ∈ L) ∧ Rg (l.take j)
set_option maxRecDepth 100000 in
set_option maxHeartbeats 4000000 in
theorem walk (v : Value) (l : List (Int × Int)) (i : Int) (wi : (Lit.int .i64 i).wf = true) (xa xb : Int) (wxa : (Lit.int .i64 xa).wf = true) (wxb : (Lit.int .i64 xb).wf = true) (w : World) (hx : ItemsArg w v l) :
    Calls Try.prog 3 #[v, .int .i64 i, .agg #[.int .i64 xa, .int .i64 xb]] w fun e w' => e = .returned (.bool true) ∧ Below w.heap.size w w' := by
  have HA := Lib.hid alive10
  obtain ⟨va, vc, rfl⟩ := hx.items.val
  have hl := hx.len
  unfold maxLen at hl
  have Hx := Lib.hid hx
  obtain ⟨n, hn⟩ : ∃ n, Hid (l.length = n) := ⟨_, rfl⟩
  rw [hn.out] at hl ⊢
  clear hx
  by_cases h1 : n < 1
  · have h1' : decide ((n : Int) < 1) = true := decide_eq_true (by omega)
    go_enter Try.func3, Try.ntmps3
    go_wp2_with fail
    refine (HA.out _).mono ?_
    rintro e w1 ⟨rfl, hb⟩
    go_wp2_with fail
    go_ret
    exact ⟨rfl, ((Below.refl _ _).alloc (Nat.le_refl _) _).trans (hb.mono (by simp))⟩
  by_cases h2 : 60 < n
  · have h2' : decide ((60 : Int) < (n : Int)) = true := decide_eq_true (by omega)
    go_enter Try.func3, Try.ntmps3
    go_wp2_with fail
    refine (HA.out _).mono ?_
    rintro e w1 ⟨rfl, hb⟩
    go_wp2_with fail
    go_ret
    exact ⟨rfl, ((Below.refl _ _).alloc (Nat.le_refl _) _).trans (hb.mono (by simp))⟩
  by_cases h3 : xa < 0
  · skip
    go_enter Try.func3, Try.ntmps3
    go_wp2_with fail
    refine (HA.out _).mono ?_
    rintro e w1 ⟨rfl, hb⟩
    go_wp2_with fail
    go_ret
    exact ⟨rfl, ((Below.refl _ _).alloc (Nat.le_refl _) _).trans (hb.mono (by simp))⟩
  by_cases h4 : xb < 0
  · skip
    go_enter Try.func3, Try.ntmps3
    go_wp2_with fail
    refine (HA.out _).mono ?_
    rintro e w1 ⟨rfl, hb⟩
    go_wp2_with fail
    go_ret
    exact ⟨rfl, ((Below.refl _ _).alloc (Nat.le_refl _) _).trans (hb.mono (by simp))⟩
  obtain ⟨K, hK⟩ : ∃ K : Nat → Prop, K = fun b => b ≤ w.heap.size := ⟨_, rfl⟩
  have HK := Lib.hid hK
  clear hK
  have hxb := heap_alloc_new w (.cells #[.int .i64 xa, .int .i64 xb] 24)
  have hwx := (Below.refl w.heap.size w).alloc (Nat.le_refl _) (.cells #[.int .i64 xa, .int .i64 xb] 24)
  have hsz : (w.alloc (.cells #[.int .i64 xa, .int .i64 xb] 24)).heap.size = w.heap.size + 1 := by simp
  go_enter Try.func3, Try.ntmps3
  go_wp2_with fail
  refine (HA.out _).mono ?_
  rintro e w1 ⟨rfl, hb⟩
  generalize w.alloc (.cells #[.int .i64 xa, .int .i64 xb] 24) = wx at *
  have Hxb := Lib.hid hxb
  have Hwx := Lib.hid hwx
  have Hsz := Lib.hid hsz
  clear hxb hwx hsz
  have Hk := Lib.hid (Kept.of_below hb K)
  clear hb
  go_wp2_with fail
  refine (new_yes 3000 _ (by omega) (by omega)).mono ?_
  rintro e w2 ⟨p, rfl, hb, ha⟩
  replace ha := ha K (fun b h => by rw [HK.out] at h; have := Hk.out.size; have := Hsz.out; omega)
  replace Hk := Lib.hid (Hk.out.trans (Kept.of_below hb K))
  clear hb
  have h0 : At wx K p l 0 0 w2 := ⟨Ar.new 3000, [], ⟨ha, (good_new (by omega) (by omega)).mono (by omega), rfl, by show (0 : Int) ≤ _; omega, Hk.out⟩, Lh.nil _, .inl rfl, fun x hx => (by cases hx)⟩
  have H0 := Lib.hid h0
  clear h0 ha Hk
  have g1 : xa ≤ 9223372036854775807 := (bounds_i64 wxa).2
  have g2 : xb ≤ 9223372036854775807 := (bounds_i64 wxb).2
  go_wp2_with fail
  go_loopw [8, 43] (fun h i W => ∃ (j : Nat) (hh : Int), h = .int .i64 hh ∧ i = .int .i64 j ∧ j ≤ n ∧ At wx K p l j hh W) (fun _ i _ => n - (intOf i).toNat)
  case atStart => exact ⟨0, 0, rfl, rfl, by omega, H0.out⟩
  case round =>
    obtain ⟨j, hh, rfl, rfl, j1, hat⟩ := hrel
    clear H0
    have Hat := Lib.hid hat
    clear hat
    by_cases hlt : j < n
    · obtain ⟨b, off, c, e, hbw, hc, hcell⟩ := Hx.out.items.cell j (by rw [hn.out]; exact hlt)
      rw [hn.out] at hc
      have hce := hcell j (by rw [hn.out]; exact hlt)
      have hva : va = some ⟨b, off, none⟩ := by injection e
      subst hva
      have hvc : n ≤ vc := by injection e with _ _ e; rw [e]; exact hc
      have hyl := Lib.hid (take_nextD (d := ((0 : Int), (0 : Int))) (show j < l.length by rw [hn.out]; exact hlt))
      have hyw := Hx.out.wf (l.getD j (0, 0)) (by rw [List.getD_eq_getElem?_getD, List.getElem?_eq_getElem (by rw [hn.out]; exact hlt)]; exact List.getElem_mem _)
      have htl := Lib.hid (show (l.take j).length = j by rw [List.length_take, hn.out]; omega)
      clear hcell e
      generalize l.getD j (0, 0) = y at *
      obtain ⟨ya, yb⟩ := y
      obtain ⟨s, L, hls, hlh, hfm, hrg⟩ := Hat.out
      have hbx : b < wx.heap.size := Nat.lt_of_lt_of_le hbw Hwx.out.size
      have hKb : K b := by rw [HK.out]; exact Nat.le_of_lt hbw
      have c0 : wr.cell? ⟨b, off + j * 2, none⟩ = some (.int .i64 ya) := (hls.kept.cell hbx hKb).trans ((Hwx.out.cell (p := ⟨b, _, none⟩) hbw).trans hce.1)
      have c1 : wr.cell? ⟨b, off + j * 2 + 1, none⟩ = some (.int .i64 yb) := (hls.kept.cell hbx hKb).trans ((Hwx.out.cell (p := ⟨b, _, none⟩) hbw).trans hce.2)
      have Hls := Lib.hid hls
      have Hlh := Lib.hid hlh
      have Hfm := Lib.hid (show hh = 0 ∨ Firm s L hh from hfm.imp id .inl)
      have Hrg := Lib.hid hrg
      clear hls hlh hfm hrg hce Hat
      have Ha := Lib.hid (Hls.out.ars.allocK (.cells #[.int .i64 ya, .int .i64 yb] 24))
      have hz := heap_alloc_new wr (.cells #[.int .i64 ya, .int .i64 yb] 24)
      by_cases hbad : ya < 0 ∨ yb < 0
      · have H := Lib.hid (insert_arg (i := (j : Int)) Hls.out.good (by omega) Hlh.out Hfm.out (by rw [htl.out]; omega) hbad Ha.out)
        have hb1 := Hls.out.kept
        have hb2 := Lib.hid (show Below w.heap.size w wr from Hwx.out.trans ((hb1.mono (K' := fun b => b < w.heap.size) (fun b _ h => by rw [HK.out]; exact Nat.le_of_lt h)).below_of Hwx.out.size))
        clear hb1
        have hor : ya < 0 ∨ (0 ≤ ya ∧ yb < 0) := by omega
        clear hbad
        rcases hor with hy | ⟨hy, hy2⟩
        all_goals
          go_wp2_with fail
          refine H.out.mono ?_
          clear H
          rintro e w3 ⟨rfl, hk3⟩
          have e0 : w3.cell? ⟨wr.heap.size, 0, none⟩ = some (.int .i64 ya) := cell_of_row _ _ _ _ _ _ ((hk3.block _ (by simp)).trans hz)
          have e1 : w3.cell? ⟨wr.heap.size, 1, none⟩ = some (.int .i64 yb) := cell_of_row _ _ _ _ _ _ ((hk3.block _ (by simp)).trans hz)
          have hb3 := Lib.hid ((hb2.out.alloc hb2.out.size (.cells #[.int .i64 ya, .int .i64 yb] 24)).trans (hk3.mono (by have := hb2.out.size; simp; omega)))
          clear hk3
          go_wp2_with fail
          go_ret
          exact ⟨rfl, hb3.out⟩
      · have y1 : 0 ≤ ya := by omega
        have y2 : 0 ≤ yb := by omega
        have y3 : ya ≤ 9223372036854775807 := (bounds_i64 hyw.1).2
        have y4 : yb ≤ 9223372036854775807 := (bounds_i64 hyw.2).2
        have H := Lib.hid (insert_is (x := ya) (y := yb) (i := j) Hls.out.good (by omega) Hlh.out Hfm.out (by rw [htl.out]; omega) (by rw [htl.out]; omega) ⟨y1, y3⟩ ⟨y2, y4⟩ (Hls.out.room (by omega)) Ha.out)
        clear hbad
        go_wp2_with fail
        refine H.out.mono ?_
        clear H
        rintro e w3 ⟨gg, s', rfl, ha3, hk3, g3, x3, l3, b3⟩
        have e0 : w3.cell? ⟨wr.heap.size, 0, none⟩ = some (.int .i64 ya) := cell_of_row _ _ _ _ _ _ ((hk3.block _ (by simp) (.inr rfl)).trans hz)
        have e1 : w3.cell? ⟨wr.heap.size, 1, none⟩ = some (.int .i64 yb) := cell_of_row _ _ _ _ _ _ ((hk3.block _ (by simp) (.inr rfl)).trans hz)
        have H3 := Lib.hid (Hls.out.made (ha3.more fun b hb => .inl hb) (((Kept.refl K wr).alloc _).trans (hk3.mono fun b _ hb => .inl hb)) g3 x3 b3)
        have L3 := Lib.hid (show Lh s' gg (l.take (j + 1)) by
          have := insL_end (l := l.take j) (y := (ya, yb))
          rw [htl.out] at this
          rw [hyl.out, ← this]
          exact l3)
        clear ha3 hk3 g3 x3 l3 b3
        go_wp2_with fail
        go_roundw
        case rel => exact ⟨j + 1, gg, rfl, by go_num, by omega, s', _, H3.out, L3.out, .inr (by simp), fun q hq => by
          rw [hyl.out] at hq
          rcases List.mem_append.1 hq with hq | hq
          · exact Hrg.out q hq
          · simp at hq; subst hq; exact ⟨⟨y1, y3⟩, ⟨y2, y4⟩⟩⟩
        case measure => simp [intOf]; omega
    · obtain rfl : n = j := by omega
      obtain ⟨s, L, hls, hlh, hfm, hrg⟩ := Hat.out
      rw [← hn.out, List.take_length] at hlh hrg
      have Hls := Lib.hid hls
      have Hlh := Lib.hid hlh
      have Hfm := Lib.hid (show Firm s L hh from .inl (hfm.resolve_left fun e => by
        have := (hlh.pos (by intro e; rw [e] at hn; have := hn.out; simp at this; omega)).1
        omega))
      have Hrg := Lib.hid hrg
      have hxk : wr.heap[w.heap.size]? = some (.cells #[.int .i64 xa, .int .i64 xb] 24 (0, 0)) := (hls.kept.block _ (by have := Hsz.out; omega) (by rw [HK.out]; exact Nat.le_refl _)).trans Hxb.out
      have x0 : wr.cell? ⟨w.heap.size, 0, none⟩ = some (.int .i64 xa) := cell_of_row _ _ _ _ _ _ hxk
      have x1 : wr.cell? ⟨w.heap.size, 1, none⟩ = some (.int .i64 xb) := cell_of_row _ _ _ _ _ _ hxk
      clear hls hlh hfm hrg Hat hxk
      obtain ⟨b1, b2, b3, b4⟩ := pick i n (by omega)
      obtain ⟨k, hk⟩ := Int.eq_ofNat_of_zero_le b1
      have hkn : k < n := by omega
      have H := Lib.hid (set_is (x := xa) (y := xb) (i := k) Hls.out.good (by omega) Hlh.out Hfm.out (by rw [hn.out]; omega) (by rw [hn.out]; exact hkn) ⟨h3, g1⟩ ⟨h4, g2⟩ (Hls.out.room (by omega)) Hls.out.ars)
      clear b1 b2
      go_wp2_with fail
      refine H.out.mono ?_
      clear H
      rintro e w3 ⟨gg, s', rfl, ha3, hk3, g3, x3, l3, b5⟩
      have Hk3 := Lib.hid hk3
      have y0 : w3.cell? ⟨w.heap.size, 0, none⟩ = some (.int .i64 xa) := kept_cell hk3 (by rw [HK.out]; exact Nat.le_refl _) x0
      have y1 : w3.cell? ⟨w.heap.size, 1, none⟩ = some (.int .i64 xb) := kept_cell hk3 (by rw [HK.out]; exact Nat.le_refl _) x1
      have H3 := Lib.hid (Hls.out.made ha3 hk3 g3 x3 b5)
      have L3 := Lib.hid l3
      have LH3 := Lib.hid (Hlh.out.ext x3)
      have F3 := Lib.hid (Hfm.out.ext x3 (L' := gg :: L) fun x hx => List.mem_cons_of_mem _ hx)
      have I3 := Lib.hid ((Hx.out.items.below Hwx.out).kept H3.out.kept fun b hb => by
        rw [HK.out]
        have := Hx.out.items.cell 0 (by rw [hn.out]; omega)
        obtain ⟨b', off, c, e, hlt', _⟩ := this
        rw [e] at hb
        injection hb with hb
        subst hb
        exact Nat.le_of_lt hlt')
      clear ha3 hk3 g3 x3 b5 l3 x0 x1
      rw [hn.out] at I3
      go_wp2_with (at_builtin; refine wpList_copy_items (l := l) I3.out (by rw [hn.out]; omega) (by rw [hn.out]; omega) rfl (.const (.slice none 0 0)) (.tmp 92) rfl rfl rfl ?_)
      intro v' w4 ho hg
      have B4 := Lib.hid ((Below.refl w3.heap.size w3).grown hg (Nat.le_refl _) (fun k e => by cases e))
      have z0 : w4.cell? ⟨w.heap.size, 0, none⟩ = some (.int .i64 xa) := (B4.out.cell (p := ⟨_, 0, none⟩) (block_lt_of_cell y0)).trans y0
      have z1 : w4.cell? ⟨w.heap.size, 1, none⟩ = some (.int .i64 xb) := (B4.out.cell (p := ⟨_, 1, none⟩) (block_lt_of_cell y1)).trans y1
      obtain ⟨g, cap, rfl, hcap⟩ : ∃ g cap, v' = .slice (some ⟨g, 0, none⟩) n cap ∧ n ≤ cap := by
        rcases ho.2 with ⟨_, e⟩ | ⟨g, cap, cur, rfl, _, _, hl', _⟩
        · rw [hn.out] at e; omega
        · exact ⟨g, cap, by rw [hn.out], by rw [hn.out] at hl'; exact hl'⟩
      obtain ⟨q0, i1, i2, i3, i4, i5⟩ := items_set ho (k := k) (by rw [hn.out]; exact hkn) (xa, xb)
      have I5 := Lib.hid i5
      have hgx : g ≠ w.heap.size := by have := block_lt_of_cell y0; dsimp only at this; omega
      clear ho hg y0 y1 i5 q0
      have B5 := Lib.hid ((B4.out.setCell (p := ⟨g, k * 2, none⟩) i1 (.int .i64 xa)).setCell (p := ⟨g, k * 2 + 1, none⟩) i1 (.int .i64 xb))
      have hsl : (setL l k (xa, xb)).length = n := by rw [setL_length (by rw [hn.out]; exact hkn), hn.out]
      have Hsl := Lib.hid hsl
      have hrg2 : Rg (setL l k (xa, xb)) := fun q hq => by
        unfold setL at hq
        rcases List.mem_append.1 hq with hq | hq
        · exact Hrg.out q (List.mem_of_mem_take hq)
        · rcases List.mem_cons.1 hq with rfl | hq
          · exact ⟨⟨h3, g1⟩, ⟨h4, g2⟩⟩
          · exact Hrg.out q (List.mem_of_mem_drop hq)
      have HA1 := fun W hb => Lib.hid (all_is (w := W) H3.out.good (by omega) L3.out (.inr (.inl (by simp))) (by rw [hsl]; omega) hrg2 (H3.out.ars.below hb))
      have HA2 := fun W hb => Lib.hid (all_is (w := W) H3.out.good (by omega) LH3.out (.inr F3.out) (by rw [hn.out]; omega) Hrg.out (H3.out.ars.below hb))
      have HLn := fun W hb => Lib.hid (len_at (w := W) hsl H3.out.good (by omega) L3.out (.inr (.inl (by simp))) (by omega) (H3.out.ars.below hb))
      have BW := Lib.hid (show Below w.heap.size w w3 from Hwx.out.trans ((H3.out.kept.mono (K' := fun b => b < w.heap.size) (fun b _ h => by rw [HK.out]; exact Nat.le_of_lt h)).below_of Hwx.out.size))
      clear hsl hrg2
      go_wp2_with fail
      generalize (w4.setCell ⟨g, k * 2, none⟩ (.int .i64 xa)).setCell ⟨g, k * 2 + 1, none⟩ (.int .i64 xb) = w5 at *
      refine (HA1 _ B5.out).out.mono ?_
      clear HA1 i2 i3 i4 z0 z1
      rintro e w6 ⟨v1, rfl, o1, k6⟩
      have J1 := Lib.hid (Items.own o1)
      have I6 := Lib.hid (I5.out.below k6)
      have B6 := Lib.hid (B5.out.trans (k6.mono B5.out.size))
      clear o1 k6
      go_wp2_with fail
      refine (same_true J1.out I6.out (by rw [Hsl.out]; omega)).mono ?_
      rintro e w7 ⟨rfl, k7⟩
      have B7 := Lib.hid (B6.out.trans (k7.mono B6.out.size))
      clear k7
      go_wp2_with fail
      refine (HA2 _ B7.out).out.mono ?_
      clear HA2
      rintro e w8 ⟨v2, rfl, o2, k8⟩
      have J2 := Lib.hid (Items.own o2)
      have B8 := Lib.hid (B7.out.trans (k8.mono B7.out.size))
      have I8 := Lib.hid (I3.out.below B8.out)
      clear o2 k8
      go_wp2_with fail
      refine (same_true J2.out I8.out (by rw [hn.out]; omega)).mono ?_
      rintro e w9 ⟨rfl, k9⟩
      have B9 := Lib.hid (B8.out.trans (k9.mono B8.out.size))
      clear k9
      go_wp2_with fail
      refine (HLn _ B9.out).out.mono ?_
      rintro e w10 ⟨rfl, _, k10⟩
      go_wp2_with fail
      go_ret
      exact ⟨rfl, BW.out.trans ((B9.out.trans (k10.mono B9.out.size)).mono BW.out.size)⟩

set_option maxRecDepth 100000 in
theorem lifted (os : Os) (started : os.Started) (H : Type) (enc : TypeId × Value → H) :
    ReturnsInHanded {} Try.checked os 3 .any (Rows.listSetsSpec.pre6 enc Try.prog Try.f3 Rows.listSetsRow.domain false) (Rows.listSetsSpec.post enc Try.prog Try.f3 false true false false) := by
  refine returnsInHanded_of_change (C := Try.checked) own_ started (by kernel_rfl) Try.func3
    (ChangeSpec.witness6 (enc := enc) (C := Try.checked) false ⟨#[], #[.slice none 0 0, .int .i64 0, .agg #[.int .i64 0, .int .i64 0]], []⟩ 8 (by kernel_rfl) (by kernel_rfl) (by kernel_rfl) (by kernel_rfl)) ?_
  intro W base args ds gs before hval0 hW _ _
  have hval : ∀ (j : Nat) t v, Try.f3.params[j]? = some t → args[j]? = some v → Value.okWide Try.prog W .any base t v := hval0
  have hW' := hW
  obtain ⟨p, q, hA0, hV, rfl, hfz, hnd⟩ := hW
  have hA : DataW.TrodAll enc Try.prog W 0 (fun _ => true) true Try.f3.params.toList args.toList ds p := hA0
  rw [Try.params3] at hA hval
  obtain ⟨v0, vs0, d0, ds0, p0, q0, hargs, rfl, rfl, h0, r0⟩ := trodAll_cons hA
  obtain ⟨v1, vs1, d1, ds1, p1, q1, rfl, rfl, rfl, h1, r1⟩ := trodAll_cons r0
  obtain ⟨v2, vs2, d2, ds2, p2, q2, rfl, rfl, rfl, h2, r2⟩ := trodAll_cons r1
  obtain ⟨rfl, rfl, rfl⟩ := trodAll_nil r2
  obtain rfl : args = #[v0, v1, v2] := by cases args; simp_all
  obtain ⟨_, _, hf0⟩ := flat_arg (ks := itemKs) (n := 5) Try.underlying22 (by kernel_rfl) (by kernel_rfl) (by decide) (hval 0 22 v0 rfl rfl) h0
  obtain ⟨x0, hx0⟩ := items_arg hf0
  obtain ⟨a1, rfl, rfl, rfl, w1⟩ := open_int Try.underlying3 (hval 1 3 v1 rfl rfl) h1
  obtain ⟨xa2, xb2, rfl, wa2, wb2⟩ := item_arg Try.underlying24 (by kernel_rfl) (hval 2 24 v2 rfl rfl) h2
  clear hA0 hval0
  refine (walk v0 x0 a1 w1 xa2 xb2 wa2 wb2 W hx0).mono fun e W' ⟨he, hg⟩ => ?_
  subst he
  exact ⟨_, rfl, law_post laid_ (by kernel_rfl) rfl hW' hg rfl Try.underlying4 ⟨rfl, rfl, rfl⟩⟩

theorem over : Rows.listSetsRow.holds Try.pinned (OpenSpec.ofChange Rows.listSetsSpec) :=
  OpenClaim.holds_of_wide 3 Try.f3 rfl rfl rfl rfl rfl rfl rfl ⟨rfl, rfl, rfl, rfl, rfl⟩ rfl rfl rfl rfl rfl (by kernel_rfl) Try.func3 (by kernel_rfl)
    (of_decide_eq_true (by kernel_rfl)) (by unfold Func.isWrapper; first | (rw [if_pos (by decide +kernel)]; kernel_rfl) | (rw [if_neg (by decide +kernel)]; exact ⟨rfl, rfl⟩))
    (fun os started H enc _ => lifted os started H enc)

theorem proved : Rows.ListSetsSaid :=
  over
#print axioms proved
end Go.Proofs.Ytlnnljkifdmmlaa.listSets
