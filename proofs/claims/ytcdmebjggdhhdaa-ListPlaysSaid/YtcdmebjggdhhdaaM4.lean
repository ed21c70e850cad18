/- Change: a list of which one place is another list, or none: for Delete, whatever happens. -/
import Derived.Test.YtcdmebjggdhhdaaM3
import Derived.Test.YtcdmebjggdhhdaaLf
namespace Go.Proofs.Ytcdmebjggdhhdaa
open Go.RowKit
section
variable {K0 : Nat → Prop} {Boxes : World → Prop} {F : Tr → Tr} {m q p : Nat} 
set_option maxRecDepth 100000 in
set_option maxHeartbeats 8000000 in
theorem change_del (HS : ∀ (K : Nat → Prop) W W', (∀ b, K0 b → K b) → Kept K W W' → Boxes W → Boxes W') (HM : Mild F)
    (HC : ∀ (K : Nat → Prop) (s : Ar) (L : List Int) (W : World) (h a b : Int), (∀ b, K0 b → K b) → Gd s L → L.length ≤ 600000 → s.made - s.busy ≤ 1000000000 → Has s h (.item a b) → Firm s L h → Tre W K q p s 0 → Boxes W →
      Calls Try.prog 38 #[.int .i64 h] W (LOut K q p s 0 L W (F (.item a b)) m)) :
    ∀ (t : Tr) (i : Nat) (h : Int) (K : Nat → Prop) (s : Ar) (L : List Int) (w : World), (∀ b, K0 b → K b) → Gd s L → L.length + 10 * t.high ≤ 600000 → s.made - s.busy ≤ 1000000000 → Has s h t → Firm s L h → t.Bal → t.len ≤ 90000 → t.high ≤ 40 → i < t.len → Tre w K q p s 0 → Boxes w →
      Calls Try.prog 33 #[.pointer (some ⟨q, 0, none⟩), .int .i64 h, .int .i64 i, .func (.func 38) #[] #[]] w (LOut K q p s 0 L w (tchange F t i) (ccost F m t i))
  | .nil, _, _, _, _, _, _, _, _, _, _, _, _, hb, _, _, _, _, _ => hb.elim
  | .item a b, i, h, K, s, L, w, hK0, g, hLn, hmb, x, fm, _, _, _, _, ha, hbx => by
    have G0 := g.goodb (by omega) hmb
    have hf := snd_fit (g.snd (by omega) hmb)
    have c0 := ha.c0
    have H := Lib.hid (node_item G0 hf x ha.ars)
    have Ha := Lib.hid ha
    have H1 := fun W hT hB => Lib.hid (HC K s L W h a b hK0 g (by omega) hmb x fm hT hB)
    have HS' := fun W hk => Lib.hid (HS K w W hK0 hk hbx)
    clear g G0 x fm ha hf HC HS HM hK0 hbx hLn hmb
    go_enter Try.func33, Try.ntmps33
    go_wp2_with fail
    refine H.out.mono ?_
    clear H
    rintro e w1 ⟨rfl, ha, hk⟩
    go_wp2_with fail
    have hb := hk.alloc hk.size (.cells #[.int .i64 4, .int .i64 0, .int .i64 0, .int .i64 0, .int .i64 0, .int .u64 a, .int .u64 b] 64)
    refine (H1 _ (Ha.out.below hb) (HS' _ (Kept.of_below hb K)).out).out.mono ?_
    rintro e w2 ⟨z, s', e', rfl, h2, h3, h4⟩
    go_wp2_with fail
    go_ret
    exact ⟨z, s', e', rfl, h2, (Kept.of_below hb K).trans h3, h4⟩
  | .join l r, i, h, K, s, L, w, hK0, g, hLn, hmb, x, _, hbal, hlen, hhigh, hi, ha, hbx => by
    have ej : (Tr.join l r).high = 1 + max l.high r.high := rfl
    have el : (Tr.join l r).len = l.len + r.len := rfl
    rw [ej] at hLn hhigh
    rw [el] at hlen hi
    obtain ⟨bl, br, d1, d2⟩ := hbal
    have G0 := g.goodb (by omega) hmb
    have hf := snd_fit (g.snd (by omega) hmb)
    have c0 := ha.c0
    obtain ⟨h1, k0, k1, e, x0, x1⟩ := x.join G0
    have H := Lib.hid (node_join G0 hf x e ha.ars)
    have GB := Lib.hid G0
    have HMB := Lib.hid hmb
    have HLN := Lib.hid hLn
    have Ha := Lib.hid ha
    have G := Lib.hid g
    have X0 := Lib.hid x0
    have X1 := Lib.hid x1
    have XK := Lib.hid (fun s' L' (E : Ext s s') (g' : Gd s' L') (hl' : L'.length ≤ 700000) (hm' : s'.made - s'.busy ≤ 1000000000) => x.kids e E (g'.goodb (by omega) hm'))
    have XF := Lib.hid (fun s' L' (E : Ext s s') => x.firm e E L')
    have HS' := fun W hk => Lib.hid (HS K w W hK0 hk hbx)
    have lh := bl.high
    have rh := br.high
    clear ha hf e g G0 x x0 x1 hbx hmb hLn
    have HIl := Lib.hid (change_del HS HM HC l)
    have HIr := Lib.hid (change_del HS HM HC r)
    have HS2 := Lib.hid HS
    have HM2 := Lib.hid HM
    clear HS HM HC
    have hkk := Lib.hid hK0
    clear hK0
    generalize hm : ((l.len + r.len : Nat) : Int) = nm at *
    have Hm := Lib.hid hm
    clear hm
    go_enter Try.func33, Try.ntmps33
    go_wp2_with fail
    refine H.out.mono ?_
    clear H
    rintro e w1 ⟨rfl, ha, hk⟩
    go_wp2_with fail
    have HB := Lib.hid (hk.alloc hk.size (.cells #[.int .i64 5, .int .i64 k0, .int .i64 k1, .int .i64 0, .int .i64 0, .int .u64 nm, .int .u64 0] 64))
    have hx := heap_alloc_new w1 (.cells #[.int .i64 5, .int .i64 k0, .int .i64 k1, .int .i64 0, .int .i64 0, .int .u64 nm, .int .u64 0] 64)
    have hzw : w.heap.size ≤ w1.heap.size := hk.size
    generalize w1.alloc (.cells #[.int .i64 5, .int .i64 k0, .int .i64 k1, .int .i64 0, .int .i64 0, .int .u64 nm, .int .u64 0] 64) = w2 at *
    generalize w1.heap.size = z at *
    obtain ⟨K1, hK1⟩ : ∃ K1 : Nat → Prop, K1 = fun b => K b ∨ b = z := ⟨_, rfl⟩
    have HA : Hid (Tre w2 K1 q p s 0) := Ha.out.newK HB.out fun b hb => by
      rw [hK1] at hb
      rcases hb with hb | rfl
      · exact ⟨Nat.lt_of_lt_of_le (Ha.out.ars.lt b (.inl hb)) HB.out.size, .inl hb⟩
      · exact ⟨lt_heap hx, .inr hzw⟩
    replace hkk := Lib.hid (show ∀ b, K0 b → K1 b from fun b hb => by rw [hK1]; exact .inl (hkk.out b hb))
    have zK := Lib.hid (show K1 z by rw [hK1]; exact .inr rfl)
    have hKK := Lib.hid (show ∀ b, K b → K1 b from fun b hb => by rw [hK1]; exact .inl hb)
    have Hbx := Lib.hid (HS' w2 (Kept.of_below HB.out K)).out
    clear hK1 HS'
    have HL := fun w (ha : Ars w (fun b => K1 b ∨ b = q) p s) => Lib.hid (llen_is (w := w) (K := fun b => K1 b ∨ b = q) (p := p) GB.out (by decide) X0.out (by omega) ha)
    have c0 := HA.out.c0
    have y1 : w2.cell? ⟨z, 1, none⟩ = some (.int .i64 k0) := cell_of_row _ _ _ _ _ _ hx
    have Hx := Lib.hid hx
    clear hx ha hk
    go_upto_region 4 with fail
    go_cut [11] (fun v W => v = .int .i64 l.len ∧ DownAt K1 q p s z k0 k1 nm Boxes w W)
    case first =>
      go_region_with (go_at_call 8; refine (HL _ HA.out.drew.ars).out.mono ?_; rintro e w3 ⟨rfl, ha3, hk3⟩; have D3 := Lib.hid (show DownAt K1 q p s z k0 k1 nm Boxes w w3 from ⟨HA.out.drew.below hk3, (hk3.block z (lt_heap Hx.out)).trans Hx.out, HB.out.drew.trans (hk3.mono HB.out.size), HS2.out K1 w2 w3 hkk.out (Kept.of_below (Below.trans (Below.refl _ _).drew hk3) K1) Hbx.out⟩); clear ha3 hk3)
      all_goals
        go_wp2_with fail
        go_meet
        case rel => exact ⟨rfl, D3.out⟩
    case rest =>
    obtain ⟨rfl, hd⟩ := hcut
    clear HL HA Hbx c0 y1 Hx HB
    obtain ⟨w3, rfl⟩ : ∃ w3 : World, w3 = wc := ⟨_, rfl⟩
    have T3 := Lib.hid hd.tre
    have Hx3 := Lib.hid hd.box
    have Hk3 := Lib.hid hd.below
    have Bx3 := Lib.hid hd.boxes
    clear hd
    have y31 : w3.cell? ⟨z, 1, none⟩ = some (.int .i64 k0) := cell_of_row _ _ _ _ _ _ Hx3.out
    have y32 : w3.cell? ⟨z, 2, none⟩ = some (.int .i64 k1) := cell_of_row _ _ _ _ _ _ Hx3.out
    by_cases hil : l.len ≤ i
    · have hgl : l.len ≤ i := hil
      have hwr : IntKind.i64.wrap ((i : Int) - (l.len : Int)) = ((i - l.len : Nat) : Int) := by rw [wrap_small (by omega) (by omega)]; omega
      have et : tchange F (.join l r) i = tjoin l (tchange F r (i - l.len)) := if_pos hil
      obtain ⟨f1, f2, f3, f4⟩ := HM2.out r (i - l.len) br
      have Et := Lib.hid et
      clear et
      have Hf := Lib.hid (And.intro f1 (And.intro f2 (And.intro f3 f4)))
      clear f1 f2 f3 f4
      have HK := fun W hT => Lib.hid (tkeep_gen (w := W) (K := K1) (q := q) (p := p) (h := k0) (e := 0) G.out (by have := HLN.out; omega) HMB.out hT)
      obtain ⟨g4, W4⟩ := keep_facts G.out X0.out bl.some
      have G4 := Lib.hid g4
      have WW4 := Lib.hid W4
      have M4 := Lib.hid (show (s.keep k0).1.made - (s.keep k0).1.busy ≤ 1000000000 by rw [W4.md]; exact HMB.out)
      clear g4 W4
      go_wp2_with fail
      go_region_with (first | (go_at_call 37; refine (HK _ T3.out.drew).out.mono ?_; rintro e w4 ⟨rfl, ha4, hk4⟩; have T4 := Lib.hid ha4; have Hx4 := Lib.hid ((hk4.block z (lt_heap Hx3.out) zK.out).trans Hx3.out); have y4 : w4.cell? ⟨z, 2, none⟩ = some (.int .i64 k1) := cell_of_row _ _ _ _ _ _ Hx4.out; have Bx4 := Lib.hid (HS2.out K1 _ w4 hkk.out (Kept.trans (Kept.refl K1 w3).drew hk4) Bx3.out); have Hk4 := Lib.hid hk4; clear ha4 hk4) | (go_at_call 33; refine (HIr.out (i - l.len) k1 K1 (s.keep k0).1 (k0 :: L) w4 hkk.out G4.out (by have := HLN.out; simp; omega) M4.out (XK.out _ _ WW4.out.ext G4.out (by have := HLN.out; simp; omega) M4.out).2 (XF.out _ _ WW4.out.ext).2 br (by omega) (by omega) (by omega) T4.out Bx4.out).mono ?_; rintro e w5 ⟨z5, s5, e5, rfl, ha5, hk5, r5⟩; have T5 := Lib.hid ha5; have Hk5 := Lib.hid hk5; have R5 := Lib.hid r5; have M5 := Lib.hid (show s5.made - s5.busy ≤ 1000000000 by rw [r5.went.md]; exact M4.out); obtain ⟨t5, q5, o5, n5⟩ := r5.rep.er; have Q5 := Lib.hid q5; have O5 := Lib.hid o5; have J5 := Lib.hid (er_cost_right (l := l) o5 n5); have D5 := Lib.hid (show t5.Fine ∧ t5.high ≤ r.high + 1 ∧ t5.len ≤ r.len + 1 from by (by_cases c : e5 = 0; (rw [o5 c]; exact ⟨Hf.out.1, Hf.out.2.2.1, Hf.out.2.2.2⟩); (rw [n5 c]; exact ⟨.inl rfl, Nat.zero_le _, Nat.zero_le _⟩))); clear ha5 hk5 r5 q5 o5 n5) | (go_at_call 36; refine (tjoin_gen (w := w5) (K := K1) (q := q) (p := p) (x := k0) (y := z5) (L := L) R5.out.gd.swap R5.out.eok (by have := HLN.out; omega) M5.out ((X0.out.rep.ext WW4.out.ext).ext R5.out.went.ext) Q5.out (by have := D5.out.2.2; omega) (by omega) (by have := D5.out.2.1; omega) (.inr bl) D5.out.1 (fun c _ _ => by have := Hf.out; rw [O5.out c]; omega) T5.out).mono ?_; rintro e w6 ⟨z6, s6, e6, rfl, ha6, hk6, r6⟩; have T6 := Lib.hid ha6; have Hk6 := Lib.hid hk6; have R6 := Lib.hid r6; clear ha6 hk6 r6))
      all_goals
        go_wp2_with fail
        go_ret
        refine ⟨z6, s6, e6, rfl, T6.out.more hKK.out, (((Kept.of_below Hk3.out K).drew.trans (Hk4.out.mono fun b _ h => hKK.out b h)).trans (Hk5.out.mono fun b _ h => hKK.out b h)).trans (Hk6.out.mono fun b _ h => hKK.out b h), ?_⟩
        have rr := LRes.after WW4.out (R5.out.of R6.out (t := tchange F (.join l r) i) fun c => by rw [Et.out, O5.out c])
        exact rr.mono (by have := J5.out; have ec : ccost F m (.join l r) i = ccost F m r (i - l.len) + jcost l (tchange F r (i - l.len)) := if_pos hgl; rw [ec]; omega)
    · have hgl : i < l.len := by omega
      have et : tchange F (.join l r) i = tjoin (tchange F l i) r := if_neg hil
      obtain ⟨f1, f2, f3, f4⟩ := HM2.out l i bl
      have Et := Lib.hid et
      clear et hil
      have Hf := Lib.hid (And.intro f1 (And.intro f2 (And.intro f3 f4)))
      clear f1 f2 f3 f4
      have HK := fun s5 L5 (g5 : Gd s5 L5) (hl5 : L5.length ≤ 700000) (hm5 : s5.made - s5.busy ≤ 1000000000) W e' hT => Lib.hid (tkeep_gen (w := W) (K := K1) (q := q) (p := p) (h := k1) (e := e') g5 (by omega) hm5 hT)
      go_wp2_with fail
      go_region_with (first | (go_at_call 33; refine (HIl.out i k0 K1 s L _ hkk.out G.out (by have := HLN.out; omega) HMB.out X0.out (XF.out _ _ (Ext.refl s)).1 bl (by omega) (by omega) (by omega) T3.out.drew (HS2.out K1 _ _ hkk.out (Kept.refl K1 w3).drew Bx3.out)).mono ?_; rintro e w5 ⟨z5, s5, e5, rfl, ha5, hk5, r5⟩; have T5 := Lib.hid ha5; have Hx5 := Lib.hid ((hk5.block z (lt_heap Hx3.out) zK.out).trans Hx3.out); have y5 : w5.cell? ⟨z, 2, none⟩ = some (.int .i64 k1) := cell_of_row _ _ _ _ _ _ Hx5.out; have Hk5 := Lib.hid hk5; have R5 := Lib.hid r5; have M5 := Lib.hid (show s5.made - s5.busy ≤ 1000000000 by rw [r5.went.md]; exact HMB.out); obtain ⟨t5, q5, o5, n5⟩ := r5.rep.er; have Q5 := Lib.hid q5; have O5 := Lib.hid o5; have J5 := Lib.hid (er_cost_left (l := r) o5 n5); have D5 := Lib.hid (show t5.Fine ∧ t5.high ≤ l.high + 1 ∧ t5.len ≤ l.len + 1 from by (by_cases c : e5 = 0; (rw [o5 c]; exact ⟨Hf.out.1, Hf.out.2.2.1, Hf.out.2.2.2⟩); (rw [n5 c]; exact ⟨.inl rfl, Nat.zero_le _, Nat.zero_le _⟩))); have F4 := Lib.hid (keep_facts r5.gd (XK.out _ _ r5.went.ext r5.gd (by have := HLN.out; simp; omega) M5.out).2 br.some); have M4 := Lib.hid (show (s5.keep k1).1.made - (s5.keep k1).1.busy ≤ 1000000000 by rw [F4.out.2.md]; exact M5.out); clear ha5 hk5 r5 q5 o5 n5) | (go_at_call 37; refine (HK s5 _ R5.out.gd (by have := HLN.out; simp; omega) M5.out w5 e5 T5.out).out.mono ?_; rintro e w4 ⟨rfl, ha4, hk4⟩; have T4 := Lib.hid ha4; have Hk4 := Lib.hid hk4; clear ha4 hk4) | (go_at_call 36; refine (tjoin_gen (w := w4) (K := K1) (q := q) (p := p) (x := z5) (y := k1) (L := L) F4.out.1.swap (eok_went R5.out.eok F4.out.2) (by have := HLN.out; omega) M4.out (Q5.out.ext F4.out.2.ext) ((X1.out.rep.ext R5.out.went.ext).ext F4.out.2.ext) (by have := D5.out.2.2; omega) (by have := D5.out.2.1; omega) (by omega) D5.out.1 (.inr br) (fun c _ _ => by have := Hf.out; rw [O5.out c]; omega) T4.out).mono ?_; rintro e w6 ⟨z6, s6, e6, rfl, ha6, hk6, r6⟩; have T6 := Lib.hid ha6; have Hk6 := Lib.hid hk6; have R6 := Lib.hid r6; clear ha6 hk6 r6))
      all_goals
        go_wp2_with fail
        go_ret
        refine ⟨z6, s6, e6, rfl, T6.out.more hKK.out, (((Kept.of_below Hk3.out K).drew.trans (Hk5.out.mono fun b _ h => hKK.out b h)).trans (Hk4.out.mono fun b _ h => hKK.out b h)).trans (Hk6.out.mono fun b _ h => hKK.out b h), ?_⟩
        have rr := R5.out.of (LRes.after F4.out.2 R6.out) (t := tchange F (.join l r) i) fun c => by rw [Et.out, O5.out c]
        exact rr.mono (by have := J5.out; have ec : ccost F m (.join l r) i = ccost F m l i + jcost (tchange F l i) r := if_neg (by omega); rw [ec]; omega)
end
end Go.Proofs.Ytcdmebjggdhhdaa
