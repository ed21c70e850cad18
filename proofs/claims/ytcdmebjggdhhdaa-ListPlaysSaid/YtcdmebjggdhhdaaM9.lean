/- Delete and Set, whatever happens. -/
import Derived.Test.YtcdmebjggdhhdaaM8
namespace Go.Proofs.Ytcdmebjggdhhdaa
open Go.RowKit

section
variable {K : Nat → Prop} {p : Nat} {s : Ar} {L : List Int} {w : World}
set_option maxRecDepth 100000 in
set_option maxHeartbeats 8000000 in
theorem delete_some {h : Int} {t : Tr} {i : Nat} (g : Gd s L) (hL : L.length ≤ 200000) (hmb : s.made - s.busy ≤ 1000000000) (hx : Has s h t) (fm : Firm s L h) (hb : t.Bal) (hl : t.len ≤ 80000) (hi : i < t.len) (ha : Ars w K p s) :
    Calls Try.prog 10 #[.pointer (some ⟨p, 0, none⟩), .int .i64 h, .int .i64 i] w (MadeG K p s L w (ccost (fun _ => .nil) 0 t i) (delL t.list i)) := by
  have hh := hb.high40 hl
  have G0 := g.goodb (by omega) hmb
  have HL := Lib.hid (llen_is (w := w) (K := K) (p := p) G0 (by decide) hx (by omega) ha)
  have Ha := Lib.hid ha
  have CH := fun w2 (hT : Tre w2 K w2.heap.size p s 0) => hT
  have G := Lib.hid g
  have Hx := Lib.hid hx
  have Fm := Lib.hid fm
  have HMB := Lib.hid hmb
  clear ha g G0 hx fm CH hmb
  go_enter Try.func10, Try.ntmps10
  go_wp2_with fail
  refine HL.out.mono ?_
  clear HL
  rintro e w1 ⟨rfl, ha1, hk1⟩
  have Ha1 := Lib.hid ha1
  have B1 := Lib.hid hk1
  clear ha1 hk1
  go_wp2_with fail
  have hq := heap_alloc_new w1 (.cells #[.pointer (some ⟨p, 0, none⟩), .int .i64 0] 70)
  have B2 := Lib.hid ((Below.refl w1.heap.size w1).alloc (Nat.le_refl _) (.cells #[.pointer (some ⟨p, 0, none⟩), .int .i64 0] 70))
  generalize w1.alloc (.cells #[.pointer (some ⟨p, 0, none⟩), .int .i64 0] 70) = w2 at *
  have hT : Tre w2 K w1.heap.size p s 0 := ⟨hq, fun e => by have := Ha1.out.lt _ e; omega, Ha1.out.newK B2.out fun b e => by
    rcases e with e | rfl
    · exact ⟨Nat.lt_of_lt_of_le (Ha1.out.lt b e) B2.out.size, .inl e⟩
    · exact ⟨lt_heap hq, .inr (Nat.le_refl _)⟩⟩
  have HT := Lib.hid hT
  clear hq hT
  have B3 := Lib.hid (B1.out.trans (B2.out.mono B1.out.size))
  clear B2
  generalize w1.heap.size = q at *
  have CH := Lib.hid (change_del (K0 := fun _ => False) (Boxes := fun _ => True) (F := fun _ => .nil) (m := 0) (q := q) (p := p)
    (fun _ _ _ _ _ _ => trivial) mild_del (fun K s L W h a b _ g _ _ _ _ ha _ => del_one (a := a) (b := b) g ha) t i h K s L w2 (fun _ h => h.elim) G.out (by omega) HMB.out Hx.out Fm.out hb (by omega) (by omega) hi HT.out trivial)
  have Hl := Lib.hid (del_list hb hi)
  refine CH.out.mono ?_
  rintro e w4 ⟨z, s', e', rfl, ha4, hk4, r4⟩
  have T4 := Lib.hid ha4
  have Hk4 := Lib.hid hk4
  have R4 := Lib.hid r4
  clear ha4 hk4 r4
  go_wp2_with fail
  refine (told_gen z R4.out.zero T4.out).mono ?_
  rintro e w' ⟨rfl, ht5, hk5⟩
  have T5 := Lib.hid ht5
  have Hk5 := Lib.hid hk5
  clear ht5 hk5
  go_wp2_with fail
  go_ret2
  exact ⟨z, s', e', rfl, T5.out.ars.more fun b hb => .inl hb, ((Kept.of_below B3.out K).trans Hk4.out).trans Hk5.out, R4.out.went, R4.out.eok, R4.out.gd, R4.out.zero, fun e0 => ⟨_, by have := R4.out.rep; rw [e0, er_ok] at this; exact this, (tchange_shrinks (fun _ _ => .inl rfl) t _ hb).1, Hl.out⟩⟩
theorem delete_range {h i : Int} {l : List (Int × Int)} (g : Gd s L) (hL : L.length ≤ 200000) (hmb : s.made - s.busy ≤ 1000000000) (hx : Lh s h l) (fm : h = 0 ∨ Firm s L h) (hl : l.length ≤ 80000) (hi : i < 0 ∨ l.length ≤ i) (ha : Ars w K p s) :
    Calls Try.prog 10 #[.pointer (some ⟨p, 0, none⟩), .int .i64 h, .int .i64 i] w fun e w' => e = .returned (.tuple #[.int .i64 0, .int .i64 3]) ∧ Below w.heap.size w w' := by
  obtain ⟨t, r, f, rfl⟩ := hx
  rw [Tr.len_list] at hl hi
  have hx : Has s h t := by
    rcases fm with rfl | fm
    · exact ⟨r, .inl rfl⟩
    · exact fm.has (g.goodb (by omega) hmb) r
  have HL := Lib.hid (llen_is (w := w) (K := K) (p := p) (g.goodb (by omega) hmb) (by decide) hx (by omega) ha)
  clear ha g hx fm r f hmb
  by_cases h0 : i < 0
  · clear hi HL
    go_enter Try.func10, Try.ntmps10
    go_wp2_with fail
    go_ret2
    exact ⟨rfl, Below.refl _ _⟩
  · have h1 : (t.len : Int) ≤ i := by omega
    clear hi
    go_enter Try.func10, Try.ntmps10
    go_wp2_with fail
    refine HL.out.mono ?_
    rintro e w1 ⟨rfl, _, hk1⟩
    go_wp2_with fail
    go_ret2
    exact ⟨rfl, hk1⟩

set_option maxRecDepth 100000 in
set_option maxHeartbeats 8000000 in
theorem set_some {h x y : Int} {t : Tr} {i : Nat} (g : Gd s L) (hL : L.length ≤ 200000) (hmb : s.made - s.busy ≤ 1000000000) (hx : Has s h t) (fm : Firm s L h) (hb : t.Bal) (hl : t.len ≤ 80000) (hi : i < t.len) (rx : 0 ≤ x ∧ x ≤ 9223372036854775807) (ry : 0 ≤ y ∧ y ≤ 9223372036854775807) (ha : Ars w K p s) :
    Calls Try.prog 19 #[.pointer (some ⟨p, 0, none⟩), .int .i64 h, .int .i64 i, .agg #[.int .i64 x, .int .i64 y]] w (MadeG K p s L w (ccost (fun _ => .item x y) 1 t i) (setL t.list i (x, y))) := by
  have hh := hb.high40 hl
  have HL := fun w ha => Lib.hid (llen_is (w := w) (K := K) (p := p) (g.goodb (by omega) hmb) (by decide) hx (by omega) ha)
  have HM := fun w => Lib.hid (may_ok (w := w) (a := x) (b := y) (i := i) (m := IntKind.i64.wrap ((t.len : Int) - 1)) rx.1 ry.1 (by omega) (by rw [wrap_small (by omega) (by omega)]; omega))
  have G := Lib.hid g
  have Hx := Lib.hid hx
  have Fm := Lib.hid fm
  have Rx := Lib.hid rx
  have Ry := Lib.hid ry
  have HMB := Lib.hid hmb
  clear g hx fm rx ry hmb
  have Ha := Lib.hid ha
  have hbx := heap_alloc_new w (.cells #[.int .i64 x, .int .i64 y] 30)
  have B1 := Lib.hid ((Below.refl w.heap.size w).alloc (Nat.le_refl _) (.cells #[.int .i64 x, .int .i64 y] 30))
  go_enter Try.func19, Try.ntmps19
  go_wp2_with fail
  generalize w.alloc (.cells #[.int .i64 x, .int .i64 y] 30) = w1 at *
  have l1 := lt_heap hbx
  have Hbx := Lib.hid hbx
  have cx0 : w1.cell? ⟨w.heap.size, 0, none⟩ = some (.int .i64 x) := cell_of_row _ _ _ _ _ _ hbx
  have cx1 : w1.cell? ⟨w.heap.size, 1, none⟩ = some (.int .i64 y) := cell_of_row _ _ _ _ _ _ hbx
  clear hbx
  go_upto_region 1 with fail
  go_cut [10] (fun v W => v = .int .i64 0 ∧ Below w1.heap.size w1 W)
  case first =>
    go_region_held3 (fun w' => w'.cell? ⟨w.heap.size, 0, none⟩ = some (.int .i64 x) ∧ w'.cell? ⟨w.heap.size, 1, none⟩ = some (.int .i64 y)) (go_keep) (first | (go_at_call 8; refine (HL _ (Ha.out.below B1.out).drew).out.mono ?_; rintro e w2 ⟨rfl, _, hk2⟩; have e0 : w2.cell? ⟨w.heap.size, 0, none⟩ = some (.int .i64 x) := cell_of_row _ _ _ _ _ _ ((hk2.block _ l1).trans Hbx.out); have e1 : w2.cell? ⟨w.heap.size, 1, none⟩ = some (.int .i64 y) := cell_of_row _ _ _ _ _ _ ((hk2.block _ l1).trans Hbx.out); have K2 := Lib.hid hk2; clear hk2) | (go_at_call 31; refine (HM _).out.mono ?_; rintro e w3 ⟨rfl, hk3⟩; have e2 : w3.cell? ⟨w.heap.size, 0, none⟩ = some (.int .i64 x) := cell_of_row _ _ _ _ _ _ ((hk3.block _ (Nat.lt_of_lt_of_le l1 K2.out.size)).trans ((K2.out.block _ l1).trans Hbx.out)); have e3 : w3.cell? ⟨w.heap.size, 1, none⟩ = some (.int .i64 y) := cell_of_row _ _ _ _ _ _ ((hk3.block _ (Nat.lt_of_lt_of_le l1 K2.out.size)).trans ((K2.out.block _ l1).trans Hbx.out)); have K3 := Lib.hid hk3; clear hk3))
    all_goals
      go_wp2_with fail
      go_meet
      case rel => exact ⟨rfl, (Below.trans (Below.refl _ _).drew K2.out).trans (K3.out.mono K2.out.size)⟩
  case rest =>
    obtain ⟨rfl, hk⟩ := hcut
    have Hbx2 := Lib.hid ((hk.block _ l1).trans Hbx.out)
    have B2 := Lib.hid (B1.out.trans (hk.mono B1.out.size))
    clear hk cx0 cx1 Hbx B1
    have l2 := lt_heap Hbx2.out
    go_wp2_with fail
    have hq : ((wc.alloc (.cells #[.pointer (some ⟨p, 0, none⟩), .int .i64 0] 70)).alloc (.cells #[.pointer (some ⟨wc.heap.size, 0, none⟩)] 68)).heap[wc.heap.size]? = some (.cells #[.pointer (some ⟨p, 0, none⟩), .int .i64 0] 70 (0, 0)) := (Below.heap_alloc _ _ _ (by simp)).trans (heap_alloc_new _ _)
    have ht : ((wc.alloc (.cells #[.pointer (some ⟨p, 0, none⟩), .int .i64 0] 70)).alloc (.cells #[.pointer (some ⟨wc.heap.size, 0, none⟩)] 68)).heap[wc.heap.size + 1]? = some (.cells #[.pointer (some ⟨wc.heap.size, 0, none⟩)] 68 (0, 0)) := by
      have := heap_alloc_new (wc.alloc (.cells #[.pointer (some ⟨p, 0, none⟩), .int .i64 0] 70)) (.cells #[.pointer (some ⟨wc.heap.size, 0, none⟩)] 68)
      simpa using this
    have hB3 := ((Below.refl wc.heap.size wc).alloc (Nat.le_refl _) (.cells #[.pointer (some ⟨p, 0, none⟩), .int .i64 0] 70)).alloc (by simp) (.cells #[.pointer (some ⟨wc.heap.size, 0, none⟩)] 68)
    generalize ((wc.alloc (.cells #[.pointer (some ⟨p, 0, none⟩), .int .i64 0] 70)).alloc (.cells #[.pointer (some ⟨wc.heap.size, 0, none⟩)] 68)) = w3 at *
    have B3 := Lib.hid (B2.out.trans (hB3.mono B2.out.size))
    have hbx3 := (hB3.block _ (lt_heap Hbx2.out)).trans Hbx2.out
    have l5 := lt_heap ht
    obtain ⟨K2, hK2⟩ : ∃ K2 : Nat → Prop, K2 = fun b => K b ∨ b = wc.heap.size + 1 ∨ b = w.heap.size := ⟨_, rfl⟩
    have hT : Tre w3 K2 wc.heap.size p s 0 := ⟨hq, fun e => by
      rw [hK2] at e
      have := Ha.out.lt wc.heap.size
      rcases e with e | e
      · have := this e; omega
      · omega, Ha.out.newK B3.out fun b e => by
      rw [hK2] at e
      rcases e with (e | e) | e
      · have := Ha.out.lt b e; exact ⟨by omega, .inl e⟩
      · exact ⟨by omega, .inr (by omega)⟩
      · exact ⟨by omega, .inr (by omega)⟩⟩
    have HT := Lib.hid hT
    have hbo : SetBoxes (wc.heap.size + 1) w.heap.size wc.heap.size x y w3 := ⟨cell_of_row _ _ _ _ _ _ ht, cell_of_row _ _ _ _ _ _ hbx3, cell_of_row _ _ _ _ _ _ hbx3⟩
    have HKK := Lib.hid (show ∀ b, K b → K2 b from fun b e => by rw [hK2]; exact .inl e)
    have HK0 := Lib.hid (show ∀ b, (b = wc.heap.size + 1 ∨ b = w.heap.size) → K2 b from fun b e => by rw [hK2]; exact .inr e)
    have Hbo := Lib.hid hbo
    obtain ⟨ct, _, _⟩ := hbo
    clear hq ht hB3 hbx3 hK2 hT B2 Hbx2
    generalize wc.heap.size + 1 = bt at *
    generalize wc.heap.size = q at *
    have CH := Lib.hid (change_set (K0 := fun b => b = bt ∨ b = w.heap.size) (Boxes := SetBoxes bt w.heap.size q x y) (F := fun _ => .item x y) (m := 1) (q := q) (p := p) (bt := bt) (bx := w.heap.size)
      (fun K W W' hK hk hb => hb.kept hk hK) (mild_set x y) (fun K s L W h a b hK g hLn hm hx fm ha hb => set_one (a := a) (b := b) g (by omega) hm Rx.out Ry.out ha hb) t i h K2 s L w3.drew HK0.out G.out (by omega) HMB.out Hx.out Fm.out hb (by omega) (by omega) hi HT.out.drew (Hbo.out.kept (Kept.refl K2 w3).drew HK0.out))
    have Hl := Lib.hid (set_list (x := x) (y := y) hb hi)
    go_region_held3 (fun w' => w'.cell? ⟨bt, 0, none⟩ = some (.pointer (some ⟨q, 0, none⟩))) (go_keep) (first | (go_at_call 33; refine CH.out.mono ?_; rintro e w4 ⟨z, s', e', rfl, ha4, hk4, r4⟩; obtain ⟨d0, _, _⟩ := (Hbo.out.kept (Kept.refl K2 w3).drew HK0.out).kept hk4 HK0.out; have T4 := Lib.hid ha4; have Hk4 := Lib.hid hk4; have R4 := Lib.hid r4; clear ha4 hk4 r4) | (go_at_call 32; refine (told_gen z R4.out.zero T4.out).mono ?_; rintro e w' ⟨rfl, ht5, hk5⟩; obtain ⟨f0, _, _⟩ := ((Hbo.out.kept (Kept.refl K2 w3).drew HK0.out).kept Hk4.out HK0.out).kept hk5 HK0.out; have T5 := Lib.hid ht5; have Hk5 := Lib.hid hk5; clear ht5 hk5))
    all_goals
      go_wp2_with fail
      go_ret2
      exact ⟨z, s', e', rfl, T5.out.ars.more fun b hb => .inl (HKK.out b hb), ((Kept.of_below B3.out K).drew.trans (Hk4.out.mono fun b _ hb => HKK.out b hb)).trans (Hk5.out.mono fun b _ hb => HKK.out b hb), R4.out.went, R4.out.eok, R4.out.gd, R4.out.zero, fun e0 => ⟨_, by have := R4.out.rep; rw [e0, er_ok] at this; exact this, .inr (tchange_grows (f := fun _ => .item x y) (fun _ _ => ⟨trivial, show 1 ≤ 2 by omega⟩) t _ hb).1, Hl.out⟩⟩
set_option maxRecDepth 100000 in
set_option maxHeartbeats 8000000 in
theorem set_range {h x y i : Int} {l : List (Int × Int)} (g : Gd s L) (hL : L.length ≤ 200000) (hmb : s.made - s.busy ≤ 1000000000) (hx : Lh s h l) (fm : h = 0 ∨ Firm s L h) (hl : l.length ≤ 80000) (hi : i < 0 ∨ l.length ≤ i) (rx : 0 ≤ x) (ry : 0 ≤ y) (ha : Ars w K p s) :
    Calls Try.prog 19 #[.pointer (some ⟨p, 0, none⟩), .int .i64 h, .int .i64 i, .agg #[.int .i64 x, .int .i64 y]] w fun e w' => e = .returned (.tuple #[.int .i64 0, .int .i64 3]) ∧ Below w.heap.size w w' := by
  obtain ⟨t, r, f, rfl⟩ := hx
  rw [Tr.len_list] at hl hi
  have hx : Has s h t := by
    rcases fm with rfl | fm
    · exact ⟨r, .inl rfl⟩
    · exact fm.has (g.goodb (by omega) hmb) r
  have HL := fun w ha => Lib.hid (llen_is (w := w) (K := K) (p := p) (g.goodb (by omega) hmb) (by decide) hx (by omega) ha)
  have HM := fun w => Lib.hid (may_range (w := w) (a := x) (b := y) (i := i) (m := IntKind.i64.wrap ((t.len : Int) - 1)) rx ry (by rw [wrap_small (by omega) (by omega)]; omega))
  clear g hx fm r f rx ry hi
  have Ha := Lib.hid ha
  have hbx := heap_alloc_new w (.cells #[.int .i64 x, .int .i64 y] 30)
  have B1 := Lib.hid ((Below.refl w.heap.size w).alloc (Nat.le_refl _) (.cells #[.int .i64 x, .int .i64 y] 30))
  go_enter Try.func19, Try.ntmps19
  go_wp2_with fail
  generalize w.alloc (.cells #[.int .i64 x, .int .i64 y] 30) = w1 at *
  have l1 := lt_heap hbx
  have Hbx := Lib.hid hbx
  have cx0 : w1.cell? ⟨w.heap.size, 0, none⟩ = some (.int .i64 x) := cell_of_row _ _ _ _ _ _ hbx
  have cx1 : w1.cell? ⟨w.heap.size, 1, none⟩ = some (.int .i64 y) := cell_of_row _ _ _ _ _ _ hbx
  clear hbx
  go_upto_region 1 with fail
  go_cut [10] (fun v W => v = .int .i64 3 ∧ Below w1.heap.size w1 W)
  case first =>
    go_region_held3 (fun w' => w'.cell? ⟨w.heap.size, 0, none⟩ = some (.int .i64 x) ∧ w'.cell? ⟨w.heap.size, 1, none⟩ = some (.int .i64 y)) (go_keep) (first | (go_at_call 8; refine (HL _ (Ha.out.below B1.out).drew).out.mono ?_; rintro e w2 ⟨rfl, _, hk2⟩; have e0 : w2.cell? ⟨w.heap.size, 0, none⟩ = some (.int .i64 x) := cell_of_row _ _ _ _ _ _ ((hk2.block _ l1).trans Hbx.out); have e1 : w2.cell? ⟨w.heap.size, 1, none⟩ = some (.int .i64 y) := cell_of_row _ _ _ _ _ _ ((hk2.block _ l1).trans Hbx.out); have K2 := Lib.hid hk2; clear hk2) | (go_at_call 31; refine (HM _).out.mono ?_; rintro e w3 ⟨rfl, hk3⟩; have e2 : w3.cell? ⟨w.heap.size, 0, none⟩ = some (.int .i64 x) := cell_of_row _ _ _ _ _ _ ((hk3.block _ (Nat.lt_of_lt_of_le l1 K2.out.size)).trans ((K2.out.block _ l1).trans Hbx.out)); have e3 : w3.cell? ⟨w.heap.size, 1, none⟩ = some (.int .i64 y) := cell_of_row _ _ _ _ _ _ ((hk3.block _ (Nat.lt_of_lt_of_le l1 K2.out.size)).trans ((K2.out.block _ l1).trans Hbx.out)); have K3 := Lib.hid hk3; clear hk3))
    all_goals
      go_wp2_with fail
      go_meet
      case rel => exact ⟨rfl, (Below.trans (Below.refl _ _).drew K2.out).trans (K3.out.mono K2.out.size)⟩
  case rest =>
    obtain ⟨rfl, hk⟩ := hcut
    have Hbx2 := Lib.hid ((hk.block _ l1).trans Hbx.out)
    have B2 := Lib.hid (B1.out.trans (hk.mono B1.out.size))
    clear hk cx0 cx1 Hbx B1
    go_wp2_with fail
    go_ret2
    exact ⟨rfl, B2.out⟩
end
end Go.Proofs.Ytcdmebjggdhhdaa
