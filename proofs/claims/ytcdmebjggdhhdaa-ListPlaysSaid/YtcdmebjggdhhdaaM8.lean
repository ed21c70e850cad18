/- Insert: a list with an item more, whatever happens. -/
import Derived.Test.YtcdmebjggdhhdaaM7
import Derived.Test.YtcdmebjggdhhdaaLg
namespace Go.Proofs.Ytcdmebjggdhhdaa
open Go.RowKit

theorem Tr.Bal.high40 {t : Tr} (h : t.Bal) (hl : t.len ≤ 80000) : t.high ≤ 40 := by
  have := h.fib
  rcases Nat.lt_or_ge t.high 41 with g | g
  · omega
  · have h2 := fibL_le g
    have h3 : 80000 < fibL 41 := Nat.lt_of_lt_of_le (show 80000 < fibL 26 by decide +kernel) (fibL_le (by omega))
    omega
/-- What a change of a list comes to: another list, at most m nodes made; or an error. -/
structure LMade (s s' : Ar) (e' g : Int) (m : Nat) (l : List (Int × Int)) (L : List Int) : Prop where
  went : Went s s' m
  eok : EOk s' e'
  gd : Gd s' (g :: L)
  zero : e' ≠ 0 → g = 0
  lh : e' = 0 → Lh s' g l
def MadeG (K : Nat → Prop) (p : Nat) (s : Ar) (L : List Int) (w : World) (m : Nat) (l : List (Int × Int)) (o : Ending) (w' : World) : Prop :=
  ∃ (g : Int) (s' : Ar) (e' : Int), o = .returned (.tuple #[.int .i64 g, .int .i64 e']) ∧ Ars w' K p s' ∧ Kept K w w' ∧ LMade s s' e' g m l L
section
variable {K : Nat → Prop} {q p : Nat} {s : Ar} {L : List Int} {w : World}
set_option maxHeartbeats 4000000 in
theorem change_ins_nil {bt bx bn bi : Nat} {x y i j : Int} (g : Gd s L) (hL : L.length ≤ 600000) (hm : s.made - s.busy ≤ 1000000000) (ra : 0 ≤ x ∧ x ≤ 9223372036854775807) (rb : 0 ≤ y ∧ y ≤ 9223372036854775807) (ha : Tre w K q p s 0) (hb : InsBoxes bt bx bn bi q x y 0 i w) (hK : ∀ y, y = bt ∨ y = bx ∨ y = bn ∨ y = bi → K y) :
    Calls Try.prog 33 #[.pointer (some ⟨q, 0, none⟩), .int .i64 0, .int .i64 j, .func (.func 34) #[] #[.pointer (some ⟨bt, 0, none⟩), .pointer (some ⟨bx, 0, none⟩), .pointer (some ⟨bn, 0, none⟩), .pointer (some ⟨bi, 0, none⟩)]] w (LOut K q p s 0 L w (Tr.item x y) 1) := by
  have c0 := ha.c0
  have H := Lib.hid (node_nil ha.ars (snd_fit (g.snd (by omega) hm)))
  have H1 := fun W hT hB' => Lib.hid (ins_none (w := W) (q := q) (p := p) (bt := bt) (bx := bx) (bn := bn) (bi := bi) (i := i) g (by omega) hm ra rb hT hB' hK)
  have Ha := Lib.hid ha
  have Hb := Lib.hid hb
  have HK := Lib.hid hK
  clear g ha hb hK ra rb hm
  go_enter Try.func33, Try.ntmps33
  go_wp2_with fail
  refine H.out.mono ?_
  clear H
  rintro e w1 ⟨rfl, ha, hk⟩
  go_wp2_with fail
  have hb := hk.alloc hk.size (.cells #[.int .i64 0, .int .i64 0, .int .i64 0, .int .i64 0, .int .i64 0, .int .u64 0, .int .u64 0] 64)
  refine (H1 _ (Ha.out.below hb) (Hb.out.kept (Kept.of_below hb K) HK.out)).out.mono ?_
  rintro e w2 ⟨z, s', e', rfl, h2, h3, h4⟩
  go_wp2_with fail
  go_ret
  exact ⟨z, s', e', rfl, h2, (Kept.of_below hb K).trans h3, h4⟩
end
section
variable {K : Nat → Prop} {p : Nat} {s : Ar} {L : List Int} {w : World}
set_option maxRecDepth 100000 in
set_option maxHeartbeats 8000000 in
theorem insert_some {h x y : Int} {t : Tr} {i : Nat} (g : Gd s L) (hL : L.length ≤ 200000) (hmb : s.made - s.busy ≤ 1000000000) (hx : Has s h t) (fm : Firm s L h) (hb : t.Bal) (hl : t.len ≤ 80000) (hi : i ≤ t.len) (rx : 0 ≤ x ∧ x ≤ 9223372036854775807) (ry : 0 ≤ y ∧ y ≤ 9223372036854775807) (ha : Ars w K p s) :
    Calls Try.prog 9 #[.pointer (some ⟨p, 0, none⟩), .int .i64 h, .int .i64 i, .agg #[.int .i64 x, .int .i64 y]] w (MadeG K p s L w (ccost (insF x y t.len i) 2 t (min i (t.len - 1))) (insL t.list i (x, y))) := by
  have hh := hb.high40 hl
  have G0 := g.goodb (by omega) hmb
  have h1 := hb.len
  have HL := fun w ha => Lib.hid (llen_is (w := w) (K := K) (p := p) G0 (by decide) hx (by omega) ha)
  have HM := fun w => Lib.hid (may_ok (w := w) (a := x) (b := y) (i := i) (m := t.len) rx.1 ry.1 (by omega) (by omega))
  have Ha := Lib.hid ha
  have G := Lib.hid g
  have Hx := Lib.hid hx
  have Fm := Lib.hid fm
  have Rx := Lib.hid rx
  have Ry := Lib.hid ry
  have HMB := Lib.hid hmb
  clear ha g G0 hx fm rx ry hmb
  go_enter Try.func9, Try.ntmps9
  go_wp2_with fail
  refine (HL _ ((Ha.out.alloc _).alloc _)).out.mono ?_
  clear HL
  rintro e w1 ⟨rfl, ha1, hk1⟩
  have hbi : w1.heap[w.heap.size]? = some (.cells #[.int .i64 i] 3 (0, 0)) := (hk1.block _ (by simp; omega)).trans ((Below.heap_alloc _ _ _ (by simp)).trans (heap_alloc_new _ _))
  have hbx : w1.heap[w.heap.size + 1]? = some (.cells #[.int .i64 x, .int .i64 y] 30 (0, 0)) := (hk1.block _ (by simp)).trans (by have := heap_alloc_new (w.alloc (.cells #[.int .i64 i] 3)) (.cells #[.int .i64 x, .int .i64 y] 30); simpa using this)
  have b1 := Lib.hid ((((Below.refl w.heap.size w).alloc (Nat.le_refl _) _).alloc (by simp) _).trans (hk1.mono (by simp; omega)))
  clear hk1 ha1
  have l1 := lt_heap hbi
  have l2 := lt_heap hbx
  have cx0 : w1.cell? ⟨w.heap.size + 1, 0, none⟩ = some (.int .i64 x) := cell_of_row _ _ _ _ _ _ hbx
  have cx1 : w1.cell? ⟨w.heap.size + 1, 1, none⟩ = some (.int .i64 y) := cell_of_row _ _ _ _ _ _ hbx
  have ci : w1.cell? ⟨w.heap.size, 0, none⟩ = some (.int .i64 i) := cell_of_row _ _ _ _ _ _ hbi
  have Hbi := Lib.hid hbi
  have Hbx := Lib.hid hbx
  clear hbi hbx
  go_wp2_with fail
  refine (HM _).out.mono ?_
  clear HM
  rintro e w2 ⟨rfl, hk2⟩
  have l3 : w.heap.size + 1 < w1.heap.size := l2
  have B2 := Lib.hid (b1.out.trans (((Below.refl w1.heap.size w1).alloc (Nat.le_refl _) (.cells #[.int .i64 t.len] 3)).trans (hk2.mono (by simp)) |>.mono (by omega)))
  have hbn : w2.heap[w1.heap.size]? = some (.cells #[.int .i64 t.len] 3 (0, 0)) := (hk2.block _ (by simp)).trans (heap_alloc_new _ _)
  have hbi2 := Lib.hid ((hk2.block _ (by simp; omega)).trans ((Below.heap_alloc _ _ _ (by omega)).trans Hbi.out))
  have hbx2 := Lib.hid ((hk2.block _ (by simp; omega)).trans ((Below.heap_alloc _ _ _ (by omega)).trans Hbx.out))
  have l4 := lt_heap hbn
  have hbn2 := Lib.hid hbn
  clear hk2 cx0 cx1 ci hbn
  go_wp2_with fail
  have hq : ((w2.alloc (.cells #[.pointer (some ⟨p, 0, none⟩), .int .i64 0] 70)).alloc (.cells #[.pointer (some ⟨w2.heap.size, 0, none⟩)] 68)).heap[w2.heap.size]? = some (.cells #[.pointer (some ⟨p, 0, none⟩), .int .i64 0] 70 (0, 0)) := (Below.heap_alloc _ _ _ (by simp)).trans (heap_alloc_new _ _)
  have ht : ((w2.alloc (.cells #[.pointer (some ⟨p, 0, none⟩), .int .i64 0] 70)).alloc (.cells #[.pointer (some ⟨w2.heap.size, 0, none⟩)] 68)).heap[w2.heap.size + 1]? = some (.cells #[.pointer (some ⟨w2.heap.size, 0, none⟩)] 68 (0, 0)) := by
    have := heap_alloc_new (w2.alloc (.cells #[.pointer (some ⟨p, 0, none⟩), .int .i64 0] 70)) (.cells #[.pointer (some ⟨w2.heap.size, 0, none⟩)] 68)
    simpa using this
  have hB3 := ((Below.refl w2.heap.size w2).alloc (Nat.le_refl _) (.cells #[.pointer (some ⟨p, 0, none⟩), .int .i64 0] 70)).alloc (by simp) (.cells #[.pointer (some ⟨w2.heap.size, 0, none⟩)] 68)
  generalize ((w2.alloc (.cells #[.pointer (some ⟨p, 0, none⟩), .int .i64 0] 70)).alloc (.cells #[.pointer (some ⟨w2.heap.size, 0, none⟩)] 68)) = w3 at *
  have B3 := Lib.hid (B2.out.trans (hB3.mono B2.out.size))
  have hbi3 := (hB3.block _ (lt_heap hbi2.out)).trans hbi2.out
  have hbx3 := (hB3.block _ (lt_heap hbx2.out)).trans hbx2.out
  have hbn3 := (hB3.block _ (lt_heap hbn2.out)).trans hbn2.out
  have l5 := lt_heap ht
  have l6 : w.heap.size < w2.heap.size := by omega
  obtain ⟨K2, hK2⟩ : ∃ K2 : Nat → Prop, K2 = fun b => K b ∨ b = w2.heap.size + 1 ∨ b = w.heap.size + 1 ∨ b = w1.heap.size ∨ b = w.heap.size := ⟨_, rfl⟩
  have hT : Tre w3 K2 w2.heap.size p s 0 := ⟨hq, fun e => by
    rw [hK2] at e
    have := Ha.out.lt w2.heap.size
    rcases e with e | e
    · have := this e; omega
    · omega, Ha.out.newK B3.out fun b e => by
    rw [hK2] at e
    rcases e with (e | e) | e
    · have := Ha.out.lt b e; exact ⟨by omega, .inl e⟩
    · exact ⟨by omega, .inr (by omega)⟩
    · exact ⟨by omega, .inr (by omega)⟩⟩
  have HT := Lib.hid hT
  have hbo : InsBoxes (w2.heap.size + 1) (w.heap.size + 1) w1.heap.size w.heap.size w2.heap.size x y t.len i w3 :=
    ⟨⟨cell_of_row _ _ _ _ _ _ ht, cell_of_row _ _ _ _ _ _ hbx3, cell_of_row _ _ _ _ _ _ hbx3⟩, cell_of_row _ _ _ _ _ _ hbn3, cell_of_row _ _ _ _ _ _ hbi3⟩
  have HKK := Lib.hid (show ∀ b, K b → K2 b from fun b e => by rw [hK2]; exact .inl e)
  have HK0 := Lib.hid (show ∀ b, (b = w2.heap.size + 1 ∨ b = w.heap.size + 1 ∨ b = w1.heap.size ∨ b = w.heap.size) → K2 b from fun b e => by rw [hK2]; exact .inr e)
  have Hbo := Lib.hid hbo
  obtain ⟨⟨ct, _, _⟩, cn, ci⟩ := hbo
  clear hq ht hB3 hbi3 hbx3 hbn3 hbi2 hbx2 hbn2 Hbi Hbx hK2 hT B2 b1
  generalize w2.heap.size + 1 = bt at *
  generalize w.heap.size + 1 = bx at *
  generalize w1.heap.size = bn at *
  generalize w2.heap.size = q at *
  have hw1 : IntKind.i64.wrap ((t.len : Int) - 1) = (t.len : Int) - 1 := wrap_small (by omega) (by omega)
  have hmm := Lib.hid (show (if (if (t.len : Int) - 1 < 0 then 0 else (t.len : Int) - 1) < (i : Int) then if (t.len : Int) - 1 < 0 then 0 else (t.len : Int) - 1 else (i : Int)) = ((min i (t.len - 1) : Nat) : Int) by
    rw [show (if (t.len : Int) - 1 < 0 then 0 else (t.len : Int) - 1) = (t.len : Int) - 1 from if_neg (by omega)]
    split <;> omega)
  have CH := Lib.hid (change_ins (K0 := fun b => b = bt ∨ b = bx ∨ b = bn ∨ b = w.heap.size) (Boxes := InsBoxes bt bx bn w.heap.size q x y t.len i) (F := insF x y t.len i) (m := 2) (q := q) (p := p) (bt := bt) (bx := bx) (bn := bn) (bi := w.heap.size)
    (fun K W W' hK hk hb => hb.kept hk hK) (mild_ins x y t.len i) (fun K s L W h a b hK g hLn hm hx fm ha hb => ins_one g hLn hm hx fm Rx.out Ry.out (by omega) ha hb hK) t (min i (t.len - 1)) h K2 s L w3.drew HK0.out G.out (by omega) HMB.out Hx.out Fm.out hb (by omega) (by omega) (by omega) HT.out.drew (Hbo.out.kept (Kept.refl K2 w3).drew HK0.out))
  have Hl := Lib.hid (ins_list (x := x) (y := y) hb hi)
  go_region_held3 (fun w' => w'.cell? ⟨bt, 0, none⟩ = some (.pointer (some ⟨q, 0, none⟩)) ∧ w'.cell? ⟨w.heap.size, 0, none⟩ = some (.int .i64 i) ∧ w'.cell? ⟨bn, 0, none⟩ = some (.int .i64 t.len)) (go_keep) (first | (go_at_call 33; rw [hmm.out]; refine CH.out.mono ?_; rintro e w4 ⟨z, s', e', rfl, ha4, hk4, r4⟩; obtain ⟨⟨d0, _, _⟩, dn, di⟩ := (Hbo.out.kept (Kept.refl K2 w3).drew HK0.out).kept hk4 HK0.out; have T4 := Lib.hid ha4; have Hk4 := Lib.hid hk4; have R4 := Lib.hid r4; clear ha4 hk4 r4) | (go_at_call 32; refine (told_gen z R4.out.zero T4.out).mono ?_; rintro e w' ⟨rfl, ht5, hk5⟩; obtain ⟨⟨f0, _, _⟩, fn, fi⟩ := ((Hbo.out.kept (Kept.refl K2 w3).drew HK0.out).kept Hk4.out HK0.out).kept hk5 HK0.out; have T5 := Lib.hid ht5; have Hk5 := Lib.hid hk5; clear ht5 hk5))
  all_goals
    go_wp2_with fail
    go_ret2
    exact ⟨z, s', e', rfl, T5.out.ars.more fun b hb => .inl (HKK.out b hb), ((Kept.of_below B3.out K).drew.trans (Hk4.out.mono fun b _ hb => HKK.out b hb)).trans (Hk5.out.mono fun b _ hb => HKK.out b hb), R4.out.went, R4.out.eok, R4.out.gd, R4.out.zero, fun e0 => ⟨_, by have := R4.out.rep; rw [e0, er_ok] at this; exact this, .inr (tchange_grows (fun a b => ⟨(insF_item x y t.len i a b).1, (insF_item x y t.len i a b).2.1⟩) t _ hb).1, Hl.out⟩⟩
set_option maxRecDepth 100000 in
set_option maxHeartbeats 8000000 in
theorem insert_none {x y : Int} (g : Gd s L) (hL : L.length ≤ 200000) (hmb : s.made - s.busy ≤ 1000000000) (rx : 0 ≤ x ∧ x ≤ 9223372036854775807) (ry : 0 ≤ y ∧ y ≤ 9223372036854775807) (ha : Ars w K p s) :
    Calls Try.prog 9 #[.pointer (some ⟨p, 0, none⟩), .int .i64 0, .int .i64 0, .agg #[.int .i64 x, .int .i64 y]] w (MadeG K p s L w 1 [(x, y)]) := by
  have hx : Has s 0 .nil := ⟨rfl, .inl rfl⟩
  have G0 := g.goodb (by omega) hmb
  have HL := fun w ha => Lib.hid (llen_is (w := w) (K := K) (p := p) G0 (by decide) hx (by show 0 ≤ 1000000; omega) ha)
  have HM := fun w => Lib.hid (may_ok (w := w) (a := x) (b := y) (i := 0) (m := 0) rx.1 ry.1 (by omega) (by omega))
  have Ha := Lib.hid ha
  have G := Lib.hid g
  have Rx := Lib.hid rx
  have Ry := Lib.hid ry
  have HMB := Lib.hid hmb
  clear ha g G0 hx rx ry hmb
  go_enter Try.func9, Try.ntmps9
  go_wp2_with fail
  refine (HL _ ((Ha.out.alloc _).alloc _)).out.mono ?_
  clear HL
  rintro e w1 ⟨rfl, ha1, hk1⟩
  have hbi : w1.heap[w.heap.size]? = some (.cells #[.int .i64 0] 3 (0, 0)) := (hk1.block _ (by simp; omega)).trans ((Below.heap_alloc _ _ _ (by simp)).trans (heap_alloc_new _ _))
  have hbx : w1.heap[w.heap.size + 1]? = some (.cells #[.int .i64 x, .int .i64 y] 30 (0, 0)) := (hk1.block _ (by simp)).trans (by have := heap_alloc_new (w.alloc (.cells #[.int .i64 0] 3)) (.cells #[.int .i64 x, .int .i64 y] 30); simpa using this)
  have b1 := Lib.hid ((((Below.refl w.heap.size w).alloc (Nat.le_refl _) _).alloc (by simp) _).trans (hk1.mono (by simp; omega)))
  clear hk1 ha1
  have l1 := lt_heap hbi
  have l2 := lt_heap hbx
  have cx0 : w1.cell? ⟨w.heap.size + 1, 0, none⟩ = some (.int .i64 x) := cell_of_row _ _ _ _ _ _ hbx
  have cx1 : w1.cell? ⟨w.heap.size + 1, 1, none⟩ = some (.int .i64 y) := cell_of_row _ _ _ _ _ _ hbx
  have ci : w1.cell? ⟨w.heap.size, 0, none⟩ = some (.int .i64 0) := cell_of_row _ _ _ _ _ _ hbi
  have Hbi := Lib.hid hbi
  have Hbx := Lib.hid hbx
  clear hbi hbx
  go_wp2_with fail
  refine (HM _).out.mono ?_
  clear HM
  rintro e w2 ⟨rfl, hk2⟩
  have l3 : w.heap.size + 1 < w1.heap.size := l2
  have B2 := Lib.hid (b1.out.trans (((Below.refl w1.heap.size w1).alloc (Nat.le_refl _) (.cells #[.int .i64 0] 3)).trans (hk2.mono (by simp)) |>.mono (by omega)))
  have hbn : w2.heap[w1.heap.size]? = some (.cells #[.int .i64 0] 3 (0, 0)) := (hk2.block _ (by simp)).trans (heap_alloc_new _ _)
  have hbi2 := Lib.hid ((hk2.block _ (by simp; omega)).trans ((Below.heap_alloc _ _ _ (by omega)).trans Hbi.out))
  have hbx2 := Lib.hid ((hk2.block _ (by simp; omega)).trans ((Below.heap_alloc _ _ _ (by omega)).trans Hbx.out))
  have l4 := lt_heap hbn
  have hbn2 := Lib.hid hbn
  clear hk2 cx0 cx1 ci hbn
  go_wp2_with fail
  have hq : ((w2.alloc (.cells #[.pointer (some ⟨p, 0, none⟩), .int .i64 0] 70)).alloc (.cells #[.pointer (some ⟨w2.heap.size, 0, none⟩)] 68)).heap[w2.heap.size]? = some (.cells #[.pointer (some ⟨p, 0, none⟩), .int .i64 0] 70 (0, 0)) := (Below.heap_alloc _ _ _ (by simp)).trans (heap_alloc_new _ _)
  have ht : ((w2.alloc (.cells #[.pointer (some ⟨p, 0, none⟩), .int .i64 0] 70)).alloc (.cells #[.pointer (some ⟨w2.heap.size, 0, none⟩)] 68)).heap[w2.heap.size + 1]? = some (.cells #[.pointer (some ⟨w2.heap.size, 0, none⟩)] 68 (0, 0)) := by
    have := heap_alloc_new (w2.alloc (.cells #[.pointer (some ⟨p, 0, none⟩), .int .i64 0] 70)) (.cells #[.pointer (some ⟨w2.heap.size, 0, none⟩)] 68)
    simpa using this
  have hB3 := ((Below.refl w2.heap.size w2).alloc (Nat.le_refl _) (.cells #[.pointer (some ⟨p, 0, none⟩), .int .i64 0] 70)).alloc (by simp) (.cells #[.pointer (some ⟨w2.heap.size, 0, none⟩)] 68)
  generalize ((w2.alloc (.cells #[.pointer (some ⟨p, 0, none⟩), .int .i64 0] 70)).alloc (.cells #[.pointer (some ⟨w2.heap.size, 0, none⟩)] 68)) = w3 at *
  have B3 := Lib.hid (B2.out.trans (hB3.mono B2.out.size))
  have hbi3 := (hB3.block _ (lt_heap hbi2.out)).trans hbi2.out
  have hbx3 := (hB3.block _ (lt_heap hbx2.out)).trans hbx2.out
  have hbn3 := (hB3.block _ (lt_heap hbn2.out)).trans hbn2.out
  have l5 := lt_heap ht
  have l6 : w.heap.size < w2.heap.size := by omega
  obtain ⟨K2, hK2⟩ : ∃ K2 : Nat → Prop, K2 = fun b => K b ∨ b = w2.heap.size + 1 ∨ b = w.heap.size + 1 ∨ b = w1.heap.size ∨ b = w.heap.size := ⟨_, rfl⟩
  have hT : Tre w3 K2 w2.heap.size p s 0 := ⟨hq, fun e => by
    rw [hK2] at e
    have := Ha.out.lt w2.heap.size
    rcases e with e | e
    · have := this e; omega
    · omega, Ha.out.newK B3.out fun b e => by
    rw [hK2] at e
    rcases e with (e | e) | e
    · have := Ha.out.lt b e; exact ⟨by omega, .inl e⟩
    · exact ⟨by omega, .inr (by omega)⟩
    · exact ⟨by omega, .inr (by omega)⟩⟩
  have HT := Lib.hid hT
  have hbo : InsBoxes (w2.heap.size + 1) (w.heap.size + 1) w1.heap.size w.heap.size w2.heap.size x y 0 0 w3 :=
    ⟨⟨cell_of_row _ _ _ _ _ _ ht, cell_of_row _ _ _ _ _ _ hbx3, cell_of_row _ _ _ _ _ _ hbx3⟩, cell_of_row _ _ _ _ _ _ hbn3, cell_of_row _ _ _ _ _ _ hbi3⟩
  have HKK := Lib.hid (show ∀ b, K b → K2 b from fun b e => by rw [hK2]; exact .inl e)
  have HK0 := Lib.hid (show ∀ b, (b = w2.heap.size + 1 ∨ b = w.heap.size + 1 ∨ b = w1.heap.size ∨ b = w.heap.size) → K2 b from fun b e => by rw [hK2]; exact .inr e)
  have Hbo := Lib.hid hbo
  obtain ⟨⟨ct, _, _⟩, cn, ci⟩ := hbo
  clear hq ht hB3 hbi3 hbx3 hbn3 hbi2 hbx2 hbn2 Hbi Hbx hK2 hT B2 b1
  generalize w2.heap.size + 1 = bt at *
  generalize w.heap.size + 1 = bx at *
  generalize w1.heap.size = bn at *
  generalize w2.heap.size = q at *
  have hw1 : IntKind.i64.wrap ((0 : Int) - 1) = -1 := by decide
  have CH := Lib.hid (change_ins_nil (bt := bt) (bx := bx) (bn := bn) (bi := w.heap.size) (i := 0) (j := 0) G.out (by omega) HMB.out Rx.out Ry.out HT.out.drew (Hbo.out.kept (Kept.refl K2 w3).drew HK0.out) HK0.out)
  go_region_held3 (fun w' => w'.cell? ⟨bt, 0, none⟩ = some (.pointer (some ⟨q, 0, none⟩)) ∧ w'.cell? ⟨w.heap.size, 0, none⟩ = some (.int .i64 0) ∧ w'.cell? ⟨bn, 0, none⟩ = some (.int .i64 0)) (go_keep) (first | (go_at_call 33; refine CH.out.mono ?_; rintro e w4 ⟨z, s', e', rfl, ha4, hk4, r4⟩; obtain ⟨⟨d0, _, _⟩, dn, di⟩ := (Hbo.out.kept (Kept.refl K2 w3).drew HK0.out).kept hk4 HK0.out; have T4 := Lib.hid ha4; have Hk4 := Lib.hid hk4; have R4 := Lib.hid r4; clear ha4 hk4 r4) | (go_at_call 32; refine (told_gen z R4.out.zero T4.out).mono ?_; rintro e w' ⟨rfl, ht5, hk5⟩; obtain ⟨⟨f0, _, _⟩, fn, fi⟩ := ((Hbo.out.kept (Kept.refl K2 w3).drew HK0.out).kept Hk4.out HK0.out).kept hk5 HK0.out; have T5 := Lib.hid ht5; have Hk5 := Lib.hid hk5; clear ht5 hk5))
  all_goals
    go_wp2_with fail
    go_ret2
    exact ⟨z, s', e', rfl, T5.out.ars.more fun b hb => .inl (HKK.out b hb), ((Kept.of_below B3.out K).drew.trans (Hk4.out.mono fun b _ hb => HKK.out b hb)).trans (Hk5.out.mono fun b _ hb => HKK.out b hb), R4.out.went, R4.out.eok, R4.out.gd, R4.out.zero, fun e0 => ⟨.item x y, by have := R4.out.rep; rw [e0, er_ok] at this; exact this, .inr trivial, rfl⟩⟩
/-- What may be no item is refused. -/
theorem insert_arg {h x y i : Int} {l : List (Int × Int)} (g : Gd s L) (hL : L.length ≤ 200000) (hmb : s.made - s.busy ≤ 1000000000) (hx : Lh s h l) (fm : h = 0 ∨ Firm s L h) (hl : l.length ≤ 80000) (hxy : x < 0 ∨ y < 0) (ha : Ars w K p s) :
    Calls Try.prog 9 #[.pointer (some ⟨p, 0, none⟩), .int .i64 h, .int .i64 i, .agg #[.int .i64 x, .int .i64 y]] w fun e w' => e = .returned (.tuple #[.int .i64 0, .int .i64 1]) ∧ Below w.heap.size w w' := by
  obtain ⟨t, r, f, rfl⟩ := hx
  rw [Tr.len_list] at hl
  have hx : Has s h t := by
    rcases fm with rfl | fm
    · exact ⟨r, .inl rfl⟩
    · exact fm.has (g.goodb (by omega) hmb) r
  have HL := fun w ha => Lib.hid (llen_is (w := w) (K := K) (p := p) (g.goodb (by omega) hmb) (by decide) hx (by omega) ha)
  have HM := fun w => Lib.hid (may_arg (w := w) (a := x) (b := y) (i := i) (m := t.len) hxy)
  have Ha := Lib.hid ha
  clear ha g hx fm r f hxy hmb
  go_enter Try.func9, Try.ntmps9
  go_wp2_with fail
  refine (HL _ ((Ha.out.alloc _).alloc _)).out.mono ?_
  clear HL
  rintro e w1 ⟨rfl, _, hk1⟩
  have hbi : w1.heap[w.heap.size]? = some (.cells #[.int .i64 i] 3 (0, 0)) := (hk1.block _ (by simp; omega)).trans ((Below.heap_alloc _ _ _ (by simp)).trans (heap_alloc_new _ _))
  have hbx : w1.heap[w.heap.size + 1]? = some (.cells #[.int .i64 x, .int .i64 y] 30 (0, 0)) := (hk1.block _ (by simp)).trans (by have := heap_alloc_new (w.alloc (.cells #[.int .i64 i] 3)) (.cells #[.int .i64 x, .int .i64 y] 30); simpa using this)
  have b1 := Lib.hid ((((Below.refl w.heap.size w).alloc (Nat.le_refl _) _).alloc (by simp) _).trans (hk1.mono (by simp; omega)))
  have l1 := lt_heap hbi
  have l2 := lt_heap hbx
  have cx0 : w1.cell? ⟨w.heap.size + 1, 0, none⟩ = some (.int .i64 x) := cell_of_row _ _ _ _ _ _ hbx
  have cx1 : w1.cell? ⟨w.heap.size + 1, 1, none⟩ = some (.int .i64 y) := cell_of_row _ _ _ _ _ _ hbx
  have ci : w1.cell? ⟨w.heap.size, 0, none⟩ = some (.int .i64 i) := cell_of_row _ _ _ _ _ _ hbi
  clear hbi hbx hk1
  go_wp2_with fail
  refine (HM _).out.mono ?_
  clear HM
  rintro e w2 ⟨rfl, hk2⟩
  have b2 := Lib.hid ((b1.out.alloc (by omega) (.cells #[.int .i64 t.len] 3)).trans (hk2.mono (by simp; omega)))
  clear hk2
  go_wp2_with fail
  go_ret2
  exact ⟨rfl, b2.out⟩
/-- What is out of the list is refused. -/
theorem insert_range {h x y i : Int} {l : List (Int × Int)} (g : Gd s L) (hL : L.length ≤ 200000) (hmb : s.made - s.busy ≤ 1000000000) (hx : Lh s h l) (fm : h = 0 ∨ Firm s L h) (hl : l.length ≤ 80000) (rx : 0 ≤ x) (ry : 0 ≤ y) (hxy : i < 0 ∨ (l.length : Int) < i) (ha : Ars w K p s) :
    Calls Try.prog 9 #[.pointer (some ⟨p, 0, none⟩), .int .i64 h, .int .i64 i, .agg #[.int .i64 x, .int .i64 y]] w fun e w' => e = .returned (.tuple #[.int .i64 0, .int .i64 3]) ∧ Below w.heap.size w w' := by
  obtain ⟨t, r, f, rfl⟩ := hx
  rw [Tr.len_list] at hl hxy
  have hx : Has s h t := by
    rcases fm with rfl | fm
    · exact ⟨r, .inl rfl⟩
    · exact fm.has (g.goodb (by omega) hmb) r
  have HL := fun w ha => Lib.hid (llen_is (w := w) (K := K) (p := p) (g.goodb (by omega) hmb) (by decide) hx (by omega) ha)
  have HM := fun w => Lib.hid (may_range (w := w) (a := x) (b := y) (i := i) (m := t.len) rx ry hxy)
  have Ha := Lib.hid ha
  clear ha g hx fm r f hxy hmb
  go_enter Try.func9, Try.ntmps9
  go_wp2_with fail
  refine (HL _ ((Ha.out.alloc _).alloc _)).out.mono ?_
  clear HL
  rintro e w1 ⟨rfl, _, hk1⟩
  have hbi : w1.heap[w.heap.size]? = some (.cells #[.int .i64 i] 3 (0, 0)) := (hk1.block _ (by simp; omega)).trans ((Below.heap_alloc _ _ _ (by simp)).trans (heap_alloc_new _ _))
  have hbx : w1.heap[w.heap.size + 1]? = some (.cells #[.int .i64 x, .int .i64 y] 30 (0, 0)) := (hk1.block _ (by simp)).trans (by have := heap_alloc_new (w.alloc (.cells #[.int .i64 i] 3)) (.cells #[.int .i64 x, .int .i64 y] 30); simpa using this)
  have b1 := Lib.hid ((((Below.refl w.heap.size w).alloc (Nat.le_refl _) _).alloc (by simp) _).trans (hk1.mono (by simp; omega)))
  have l1 := lt_heap hbi
  have l2 := lt_heap hbx
  have cx0 : w1.cell? ⟨w.heap.size + 1, 0, none⟩ = some (.int .i64 x) := cell_of_row _ _ _ _ _ _ hbx
  have cx1 : w1.cell? ⟨w.heap.size + 1, 1, none⟩ = some (.int .i64 y) := cell_of_row _ _ _ _ _ _ hbx
  have ci : w1.cell? ⟨w.heap.size, 0, none⟩ = some (.int .i64 i) := cell_of_row _ _ _ _ _ _ hbi
  clear hbi hbx hk1
  go_wp2_with fail
  refine (HM _).out.mono ?_
  clear HM
  rintro e w2 ⟨rfl, hk2⟩
  have b2 := Lib.hid ((b1.out.alloc (by omega) (.cells #[.int .i64 t.len] 3)).trans (hk2.mono (by simp; omega)))
  clear hk2
  go_wp2_with fail
  go_ret2
  exact ⟨rfl, b2.out⟩
end
end Go.Proofs.Ytcdmebjggdhhdaa
