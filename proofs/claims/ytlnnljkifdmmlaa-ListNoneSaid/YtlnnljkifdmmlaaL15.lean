/- Change: a list of which one place is another list, or none: for Set. -/
import Derived.Test.YtlnnljkifdmmlaaL12
namespace Go.Proofs.Ytlnnljkifdmmlaa
open Go.RowKit
section
variable {K0 : Nat → Prop} {Boxes : World → Prop} {F : Tr → Tr} {m q p : Nat} {bt bx : Nat}
set_option maxRecDepth 100000 in
set_option maxHeartbeats 8000000 in
theorem change_set (HS : ∀ (K : Nat → Prop) W W', (∀ b, K0 b → K b) → Kept K W W' → Boxes W → Boxes W') (HM : Mild F)
    (HC : ∀ (K : Nat → Prop) (s : Ar) (B : Int) (L : List Int) (W : World) (h a b : Int), (∀ b, K0 b → K b) → Good s B L → B ≤ 5000000 → Has s h (.item a b) → Firm s L h → s.busy + m ≤ s.n → Tre W K q p s 0 → Boxes W →
      Calls Try.prog 37 #[.int .i64 h, .pointer (some ⟨bt, 0, none⟩), .pointer (some ⟨bx, 0, none⟩)] W (Leaves K q p s (B + 50) L W (F (.item a b)) m)) :
    ∀ (t : Tr) (i : Nat) (h : Int) (K : Nat → Prop) (s : Ar) (B : Int) (L : List Int) (w : World), (∀ b, K0 b → K b) → Good s B L → B + 100 * t.high ≤ 4000000 → Has s h t → Firm s L h → t.Bal → t.len ≤ 900 → t.high ≤ 40 → i < t.len → s.busy + (3 * t.high + m : Nat) ≤ s.n → Tre w K q p s 0 → Boxes w →
      Calls Try.prog 32 #[.pointer (some ⟨q, 0, none⟩), .int .i64 h, .int .i64 i, .func (.func 37) #[] #[.pointer (some ⟨bt, 0, none⟩), .pointer (some ⟨bx, 0, none⟩)]] w (Leaves K q p s (B + 100 * t.high) L w (tchange F t i) (3 * t.high + m))
  | .nil, _, _, _, _, _, _, _, _, _, _, _, _, hb, _, _, _, _, _, _ => hb.elim
  | .item a b, i, h, K, s, B, L, w, hK0, g, hB, x, fm, _, _, _, _, hr, ha, hbx => by
    have hf := g.ok.fit (by omega)
    have c0 := ha.c0
    have H := Lib.hid (node_item g hf x ha.ars)
    have Ha := Lib.hid ha
    have H1 := fun W hT hB => Lib.hid (HC K s B L W h a b hK0 g (by omega) x fm (by have : (Tr.item a b).high = 1 := rfl; omega) hT hB)
    have HS' := fun W hk => Lib.hid (HS K w W hK0 hk hbx)
    clear g x fm ha hf HC HS HM hK0 hbx hr hB
    go_enter Try.func32, Try.ntmps32
    go_wp2_with fail
    refine H.out.mono ?_
    clear H
    rintro e w1 ⟨rfl, ha, hk⟩
    go_wp2_with fail
    have hb := hk.alloc hk.size (.cells #[.int .i64 4, .int .i64 0, .int .i64 0, .int .i64 0, .int .i64 0, .int .u64 a, .int .u64 b] 42)
    refine (H1 _ (Ha.out.below hb) (HS' _ (Kept.of_below hb K)).out).out.mono ?_
    rintro e w2 ⟨z, s', rfl, h2, h3, h4, h5, h6, h7⟩
    go_wp2_with fail
    go_ret
    exact ⟨z, s', rfl, h2, (Kept.of_below hb K).trans h3, h4.mono (by show _ ≤ _ + 100 * ((1 : Nat) : Int); omega), h5, h6, by omega⟩
  | .join l r, i, h, K, s, B, L, w, hK0, g, hB, x, _, hbal, hlen, hhigh, hi, hr, ha, hbx => by
    have ej : (Tr.join l r).high = 1 + max l.high r.high := rfl
    have el : (Tr.join l r).len = l.len + r.len := rfl
    rw [ej] at hB hhigh hr
    rw [el] at hlen hi
    obtain ⟨bl, br, d1, d2⟩ := hbal
    have hf := g.ok.fit (by omega)
    have c0 := ha.c0
    obtain ⟨h1, k0, k1, e, x0, x1⟩ := x.join g
    have H := Lib.hid (node_join g hf x e ha.ars)
    have Ha := Lib.hid ha
    have G := Lib.hid g
    have X0 := Lib.hid x0
    have X1 := Lib.hid x1
    have XK := Lib.hid (fun s' B' L' (E : Ext s s') (g' : Good s' B' L') => x.kids e E g')
    have XF := Lib.hid (fun s' L' (E : Ext s s') => x.firm e E L')
    have HS' := fun W hk => Lib.hid (HS K w W hK0 hk hbx)
    have lh := bl.high
    have rh := br.high
    clear ha hf e g x x0 x1 hbx
    have HIl := Lib.hid (change_set HS HM HC l)
    have HIr := Lib.hid (change_set HS HM HC r)
    have HS2 := Lib.hid HS
    have HM2 := Lib.hid HM
    clear HS HM HC
    have hkk := Lib.hid hK0
    clear hK0
    generalize hm : ((l.len + r.len : Nat) : Int) = nm at *
    have Hm := Lib.hid hm
    clear hm
    go_enter Try.func32, Try.ntmps32
    go_wp2_with fail
    refine H.out.mono ?_
    clear H
    rintro e w1 ⟨rfl, ha, hk⟩
    go_wp2_with fail
    have HB := Lib.hid (hk.alloc hk.size (.cells #[.int .i64 5, .int .i64 k0, .int .i64 k1, .int .i64 0, .int .i64 0, .int .u64 nm, .int .u64 0] 42))
    have hx := heap_alloc_new w1 (.cells #[.int .i64 5, .int .i64 k0, .int .i64 k1, .int .i64 0, .int .i64 0, .int .u64 nm, .int .u64 0] 42)
    have hzw : w.heap.size ≤ w1.heap.size := hk.size
    generalize w1.alloc (.cells #[.int .i64 5, .int .i64 k0, .int .i64 k1, .int .i64 0, .int .i64 0, .int .u64 nm, .int .u64 0] 42) = w2 at *
    generalize w1.heap.size = z at *
    obtain ⟨K1, hK1⟩ : ∃ K1 : Nat → Prop, K1 = fun b => K b ∨ b = z := ⟨_, rfl⟩
    have HA : Hid (Tre w2 K1 q p s 0) := Ha.out.newK HB.out fun b hb => by
      rw [hK1] at hb
      rcases hb with hb | rfl
      · exact ⟨Nat.lt_of_lt_of_le (Ha.out.ars.lt b (.inl hb)) HB.out.size, .inl hb⟩
      · exact ⟨lt_heap hx, .inr hzw⟩
    replace hkk := Lib.hid (show ∀ b, K0 b → K1 b from fun b hb => by rw [hK1]; exact .inl (hkk.out b hb))
    have zK := Lib.hid (show K1 z by rw [hK1]; exact .inr rfl)
    have hKK := Lib.hid (show ∀ b, K b → K1 b from fun b hb => by rw [hK1]; exact .inl hb)
    have Hbx := Lib.hid (HS' w2 (Kept.of_below HB.out K)).out
    clear hK1 HS'
    have HL := fun w (ha : Ars w (fun b => K1 b ∨ b = q) p s) => Lib.hid (llen_is (w := w) (K := fun b => K1 b ∨ b = q) (p := p) G.out (by omega) X0.out (by omega) ha)
    have c0 := HA.out.c0
    have y1 : w2.cell? ⟨z, 1, none⟩ = some (.int .i64 k0) := cell_of_row _ _ _ _ _ _ hx
    have Hx := Lib.hid hx
    clear hx ha hk
    go_upto_region 4 with fail
    go_cut [11] (fun v W => v = .int .i64 l.len ∧ DownAt K1 q p s z k0 k1 nm Boxes w W)
    case first =>
      go_region_with (go_at_call 17; refine (HL _ HA.out.drew.ars).out.mono ?_; rintro e w3 ⟨rfl, ha3, hk3⟩; have D3 := Lib.hid (show DownAt K1 q p s z k0 k1 nm Boxes w w3 from ⟨HA.out.drew.below hk3, (hk3.block z (lt_heap Hx.out)).trans Hx.out, HB.out.drew.trans (hk3.mono HB.out.size), HS2.out K1 w2 w3 hkk.out (Kept.of_below (Below.trans (Below.refl _ _).drew hk3) K1) Hbx.out⟩); clear ha3 hk3)
      all_goals
        go_wp2_with fail
        go_meet
        case rel => exact ⟨rfl, D3.out⟩
    case rest =>
    obtain ⟨rfl, hd⟩ := hcut
    clear HL HA Hbx c0 y1 Hx HB
    obtain ⟨w3, rfl⟩ : ∃ w3 : World, w3 = wc := ⟨_, rfl⟩
    have T3 := Lib.hid hd.tre
    have Hx3 := Lib.hid hd.box
    have Hk3 := Lib.hid hd.below
    have Bx3 := Lib.hid hd.boxes
    clear hd
    have y31 : w3.cell? ⟨z, 1, none⟩ = some (.int .i64 k0) := cell_of_row _ _ _ _ _ _ Hx3.out
    have y32 : w3.cell? ⟨z, 2, none⟩ = some (.int .i64 k1) := cell_of_row _ _ _ _ _ _ Hx3.out
    by_cases hil : l.len ≤ i
    · have hgl : l.len ≤ i := hil
      have hwr : IntKind.i64.wrap ((i : Int) - (l.len : Int)) = ((i - l.len : Nat) : Int) := by rw [wrap_small (by omega) (by omega)]; omega
      have et : tchange F (.join l r) i = tjoin l (tchange F r (i - l.len)) := if_pos hil
      obtain ⟨f1, f2, f3, f4⟩ := HM2.out r (i - l.len) br
      have Et := Lib.hid et
      clear et
      have Hf := Lib.hid (And.intro f1 (And.intro f2 (And.intro f3 f4)))
      clear f1 f2 f3 f4
      have HK := fun W hT => Lib.hid (tkeep_good (w := W) (K := K1) (q := q) (p := p) (e := 0) G.out (by omega) X0.out bl.some hT)
      go_wp2_with fail
      go_region_with (first | (go_at_call 36; refine (HK _ T3.out.drew).out.mono ?_; rintro e w4 ⟨s4, rfl, ha4, hk4, g4, e4, b4⟩; have T4 := Lib.hid ha4; have Hx4 := Lib.hid ((hk4.block z (lt_heap Hx3.out) zK.out).trans Hx3.out); have y4 : w4.cell? ⟨z, 2, none⟩ = some (.int .i64 k1) := cell_of_row _ _ _ _ _ _ Hx4.out; have Bx4 := Lib.hid (HS2.out K1 _ w4 hkk.out (Kept.trans (Kept.refl K1 w3).drew hk4) Bx3.out); have Hk4 := Lib.hid hk4; have G4 := Lib.hid g4; have E4 := Lib.hid e4; have B4 := Lib.hid b4; clear ha4 hk4 g4 e4 b4) | (go_at_call 32; refine (HIr.out (i - l.len) k1 K1 s4 _ _ w4 hkk.out G4.out (by omega) (XK.out _ _ _ E4.out G4.out).2 (XF.out _ _ E4.out).2 br (by omega) (by omega) (by omega) (by rw [B4.out, E4.out.n]; omega) T4.out Bx4.out).mono ?_; rintro e w5 ⟨z5, s5, rfl, ha5, hk5, g5, e5, r5, b5⟩; have T5 := Lib.hid ha5; have Hk5 := Lib.hid hk5; have G5 := Lib.hid g5; have E5 := Lib.hid e5; have R5 := Lib.hid r5; have B5 := Lib.hid b5; clear ha5 hk5 g5 e5 r5 b5) | (go_at_call 35; refine (tjoin_good (w := w5) (K := K1) (q := q) (p := p) (x := k0) (y := z5) G5.out.swap (by omega) ((X0.out.rep.ext E4.out).ext E5.out) R5.out (by have := Hf.out.2.2.2; omega) (by omega) (by have := Hf.out.2.2.1; omega) (.inr bl) Hf.out.1 (fun _ _ => by have := Hf.out; omega) (by rw [E5.out.n, E4.out.n]; have := B5.out; rw [B4.out] at this; omega) T5.out).mono ?_; rintro e w6 ⟨z6, s6, rfl, ha6, hk6, g6, e6, r6, b6⟩; have T6 := Lib.hid ha6; have Hk6 := Lib.hid hk6; have G6 := Lib.hid g6; have E6 := Lib.hid e6; have R6 := Lib.hid r6; have B6 := Lib.hid b6; clear ha6 hk6 g6 e6 r6 b6))
      all_goals
        go_wp2_with fail
        go_ret
        have b4 := B4.out
        have b5 := B5.out
        have b6 := B6.out
        exact ⟨z6, s6, rfl, T6.out.more hKK.out, (((Kept.of_below Hk3.out K).drew.trans (Hk4.out.mono fun b _ h => hKK.out b h)).trans (Hk5.out.mono fun b _ h => hKK.out b h)).trans (Hk6.out.mono fun b _ h => hKK.out b h), G6.out.mono (by rw [ej]; omega), (E4.out.trans E5.out).trans E6.out, by rw [Et.out]; exact R6.out, by rw [ej]; omega⟩
    · have hgl : i < l.len := by omega
      have et : tchange F (.join l r) i = tjoin (tchange F l i) r := if_neg hil
      obtain ⟨f1, f2, f3, f4⟩ := HM2.out l i bl
      have Et := Lib.hid et
      clear et hil
      have Hf := Lib.hid (And.intro f1 (And.intro f2 (And.intro f3 f4)))
      clear f1 f2 f3 f4
      go_wp2_with fail
      go_region_with (first | (go_at_call 32; refine (HIl.out i k0 K1 s _ _ _ hkk.out G.out (by omega) X0.out (XF.out _ _ (Ext.refl s)).1 bl (by omega) (by omega) (by omega) (by omega) T3.out.drew (HS2.out K1 _ _ hkk.out (Kept.refl K1 w3).drew Bx3.out)).mono ?_; rintro e w5 ⟨z5, s5, rfl, ha5, hk5, g5, e5, r5, b5⟩; have T5 := Lib.hid ha5; have Hx5 := Lib.hid ((hk5.block z (lt_heap Hx3.out) zK.out).trans Hx3.out); have y5 : w5.cell? ⟨z, 2, none⟩ = some (.int .i64 k1) := cell_of_row _ _ _ _ _ _ Hx5.out; have Hk5 := Lib.hid hk5; have G5 := Lib.hid g5; have E5 := Lib.hid e5; have R5 := Lib.hid r5; have B5 := Lib.hid b5; clear ha5 hk5 g5 e5 r5 b5) | (go_at_call 36; refine (tkeep_good (w := w5) (K := K1) (q := q) (p := p) (e := 0) G5.out (by omega) (XK.out _ _ _ E5.out G5.out).2 br.some T5.out).mono ?_; rintro e w4 ⟨s4, rfl, ha4, hk4, g4, e4, b4⟩; have T4 := Lib.hid ha4; have Hk4 := Lib.hid hk4; have G4 := Lib.hid g4; have E4 := Lib.hid e4; have B4 := Lib.hid b4; clear ha4 hk4 g4 e4 b4) | (go_at_call 35; refine (tjoin_good (w := w4) (K := K1) (q := q) (p := p) (x := z5) (y := k1) G4.out.swap (by omega) (R5.out.ext E4.out) ((X1.out.rep.ext E5.out).ext E4.out) (by have := Hf.out.2.2.2; omega) (by have := Hf.out.2.2.1; omega) (by omega) Hf.out.1 (.inr br) (fun _ _ => by have := Hf.out; omega) (by rw [B4.out, E4.out.n, E5.out.n]; have := B5.out; omega) T4.out).mono ?_; rintro e w6 ⟨z6, s6, rfl, ha6, hk6, g6, e6, r6, b6⟩; have T6 := Lib.hid ha6; have Hk6 := Lib.hid hk6; have G6 := Lib.hid g6; have E6 := Lib.hid e6; have R6 := Lib.hid r6; have B6 := Lib.hid b6; clear ha6 hk6 g6 e6 r6 b6))
      all_goals
        go_wp2_with fail
        go_ret
        have b4 := B4.out
        have b5 := B5.out
        have b6 := B6.out
        exact ⟨z6, s6, rfl, T6.out.more hKK.out, (((Kept.of_below Hk3.out K).drew.trans (Hk5.out.mono fun b _ h => hKK.out b h)).trans (Hk4.out.mono fun b _ h => hKK.out b h)).trans (Hk6.out.mono fun b _ h => hKK.out b h), G6.out.mono (by rw [ej]; omega), (E5.out.trans E4.out).trans E6.out, by rw [Et.out]; exact R6.out, by rw [ej]; omega⟩
end
end Go.Proofs.Ytlnnljkifdmmlaa
