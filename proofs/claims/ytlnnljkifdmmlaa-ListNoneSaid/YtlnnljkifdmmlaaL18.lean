/- Insert: a list with an item more. -/
import Derived.Test.YtlnnljkifdmmlaaL17
namespace Go.Proofs.Ytlnnljkifdmmlaa
open Go.RowKit

section
variable {K : Nat → Prop} {p : Nat} {s : Ar} {B : Int} {L : List Int} {w : World}
set_option maxRecDepth 100000 in
set_option maxHeartbeats 8000000 in
theorem insert_some {h x y : Int} {t : Tr} {i : Nat} (g : Good s B L) (hB : B ≤ 1000000) (hx : Has s h t) (fm : Firm s L h) (hb : t.Bal) (hl : t.len ≤ 231) (hi : i ≤ t.len) (rx : 0 ≤ x ∧ x ≤ 9223372036854775807) (ry : 0 ≤ y ∧ y ≤ 9223372036854775807) (hr : s.busy + (3 * t.high + 4 : Nat) ≤ s.n) (ha : Ars w K p s) :
    Calls Try.prog 13 #[.pointer (some ⟨p, 0, none⟩), .int .i64 h, .int .i64 i, .agg #[.int .i64 x, .int .i64 y]] w (Made K p s B L w (3 * t.high + 4) (insL t.list i (x, y))) := by
  have hh := hb.high_le (by omega)
  have h1 := hb.len
  have HL := fun w ha => Lib.hid (llen_is (w := w) (K := K) (p := p) g (by omega) hx (by omega) ha)
  have HM := fun w => Lib.hid (may_ok (w := w) (a := x) (b := y) (i := i) (m := t.len) rx.1 ry.1 (by omega) (by omega))
  have Ha := Lib.hid ha
  have G := Lib.hid g
  have Hx := Lib.hid hx
  have Fm := Lib.hid fm
  have Rx := Lib.hid rx
  have Ry := Lib.hid ry
  clear ha g hx fm rx ry
  go_enter Try.func13, Try.ntmps13
  go_wp2_with fail
  refine (HL _ ((Ha.out.alloc _).alloc _)).out.mono ?_
  clear HL
  rintro e w1 ⟨rfl, ha1, hk1⟩
  have hbi : w1.heap[w.heap.size]? = some (.cells #[.int .i64 i] 3 (0, 0)) := (hk1.block _ (by simp; omega)).trans ((Below.heap_alloc _ _ _ (by simp)).trans (heap_alloc_new _ _))
  have hbx : w1.heap[w.heap.size + 1]? = some (.cells #[.int .i64 x, .int .i64 y] 24 (0, 0)) := (hk1.block _ (by simp)).trans (by have := heap_alloc_new (w.alloc (.cells #[.int .i64 i] 3)) (.cells #[.int .i64 x, .int .i64 y] 24); simpa using this)
  have b1 := Lib.hid ((((Below.refl w.heap.size w).alloc (Nat.le_refl _) _).alloc (by simp) _).trans (hk1.mono (by simp; omega)))
  clear hk1 ha1
  have l1 := lt_heap hbi
  have l2 := lt_heap hbx
  have cx0 : w1.cell? ⟨w.heap.size + 1, 0, none⟩ = some (.int .i64 x) := cell_of_row _ _ _ _ _ _ hbx
  have cx1 : w1.cell? ⟨w.heap.size + 1, 1, none⟩ = some (.int .i64 y) := cell_of_row _ _ _ _ _ _ hbx
  have ci : w1.cell? ⟨w.heap.size, 0, none⟩ = some (.int .i64 i) := cell_of_row _ _ _ _ _ _ hbi
  have Hbi := Lib.hid hbi
  have Hbx := Lib.hid hbx
  clear hbi hbx
  go_wp2_with fail
  refine (HM _).out.mono ?_
  clear HM
  rintro e w2 ⟨rfl, hk2⟩
  have l3 : w.heap.size + 1 < w1.heap.size := l2
  have B2 := Lib.hid (b1.out.trans (((Below.refl w1.heap.size w1).alloc (Nat.le_refl _) (.cells #[.int .i64 t.len] 3)).trans (hk2.mono (by simp)) |>.mono (by omega)))
  have hbn : w2.heap[w1.heap.size]? = some (.cells #[.int .i64 t.len] 3 (0, 0)) := (hk2.block _ (by simp)).trans (heap_alloc_new _ _)
  have hbi2 := Lib.hid ((hk2.block _ (by simp; omega)).trans ((Below.heap_alloc _ _ _ (by omega)).trans Hbi.out))
  have hbx2 := Lib.hid ((hk2.block _ (by simp; omega)).trans ((Below.heap_alloc _ _ _ (by omega)).trans Hbx.out))
  have l4 := lt_heap hbn
  have hbn2 := Lib.hid hbn
  clear hk2 cx0 cx1 ci hbn
  go_wp2_with fail
  have hq : ((w2.alloc (.cells #[.pointer (some ⟨p, 0, none⟩), .int .i64 0] 65)).alloc (.cells #[.pointer (some ⟨w2.heap.size, 0, none⟩)] 63)).heap[w2.heap.size]? = some (.cells #[.pointer (some ⟨p, 0, none⟩), .int .i64 0] 65 (0, 0)) := (Below.heap_alloc _ _ _ (by simp)).trans (heap_alloc_new _ _)
  have ht : ((w2.alloc (.cells #[.pointer (some ⟨p, 0, none⟩), .int .i64 0] 65)).alloc (.cells #[.pointer (some ⟨w2.heap.size, 0, none⟩)] 63)).heap[w2.heap.size + 1]? = some (.cells #[.pointer (some ⟨w2.heap.size, 0, none⟩)] 63 (0, 0)) := by
    have := heap_alloc_new (w2.alloc (.cells #[.pointer (some ⟨p, 0, none⟩), .int .i64 0] 65)) (.cells #[.pointer (some ⟨w2.heap.size, 0, none⟩)] 63)
    simpa using this
  have hB3 := ((Below.refl w2.heap.size w2).alloc (Nat.le_refl _) (.cells #[.pointer (some ⟨p, 0, none⟩), .int .i64 0] 65)).alloc (by simp) (.cells #[.pointer (some ⟨w2.heap.size, 0, none⟩)] 63)
  generalize ((w2.alloc (.cells #[.pointer (some ⟨p, 0, none⟩), .int .i64 0] 65)).alloc (.cells #[.pointer (some ⟨w2.heap.size, 0, none⟩)] 63)) = w3 at *
  have B3 := Lib.hid (B2.out.trans (hB3.mono B2.out.size))
  have hbi3 := (hB3.block _ (lt_heap hbi2.out)).trans hbi2.out
  have hbx3 := (hB3.block _ (lt_heap hbx2.out)).trans hbx2.out
  have hbn3 := (hB3.block _ (lt_heap hbn2.out)).trans hbn2.out
  have l5 := lt_heap ht
  have l6 : w.heap.size < w2.heap.size := by omega
  obtain ⟨K2, hK2⟩ : ∃ K2 : Nat → Prop, K2 = fun b => K b ∨ b = w2.heap.size + 1 ∨ b = w.heap.size + 1 ∨ b = w1.heap.size ∨ b = w.heap.size := ⟨_, rfl⟩
  have hT : Tre w3 K2 w2.heap.size p s 0 := ⟨hq, fun e => by
    rw [hK2] at e
    have := Ha.out.lt w2.heap.size
    rcases e with e | e
    · have := this e; omega
    · omega, Ha.out.newK B3.out fun b e => by
    rw [hK2] at e
    rcases e with (e | e) | e
    · have := Ha.out.lt b e; exact ⟨by omega, .inl e⟩
    · exact ⟨by omega, .inr (by omega)⟩
    · exact ⟨by omega, .inr (by omega)⟩⟩
  have HT := Lib.hid hT
  have hbo : InsBoxes (w2.heap.size + 1) (w.heap.size + 1) w1.heap.size w.heap.size w2.heap.size x y t.len i w3 :=
    ⟨⟨cell_of_row _ _ _ _ _ _ ht, cell_of_row _ _ _ _ _ _ hbx3, cell_of_row _ _ _ _ _ _ hbx3⟩, cell_of_row _ _ _ _ _ _ hbn3, cell_of_row _ _ _ _ _ _ hbi3⟩
  have HKK := Lib.hid (show ∀ b, K b → K2 b from fun b e => by rw [hK2]; exact .inl e)
  have HK0 := Lib.hid (show ∀ b, (b = w2.heap.size + 1 ∨ b = w.heap.size + 1 ∨ b = w1.heap.size ∨ b = w.heap.size) → K2 b from fun b e => by rw [hK2]; exact .inr e)
  have Hbo := Lib.hid hbo
  obtain ⟨⟨ct, _, _⟩, cn, ci⟩ := hbo
  clear hq ht hB3 hbi3 hbx3 hbn3 hbi2 hbx2 hbn2 Hbi Hbx hK2 hT B2 b1
  generalize w2.heap.size + 1 = bt at *
  generalize w.heap.size + 1 = bx at *
  generalize w1.heap.size = bn at *
  generalize w2.heap.size = q at *
  have hw1 : IntKind.i64.wrap ((t.len : Int) - 1) = (t.len : Int) - 1 := wrap_small (by omega) (by omega)
  have hmm := Lib.hid (show (if (if (t.len : Int) - 1 < 0 then 0 else (t.len : Int) - 1) < (i : Int) then if (t.len : Int) - 1 < 0 then 0 else (t.len : Int) - 1 else (i : Int)) = ((min i (t.len - 1) : Nat) : Int) by
    rw [show (if (t.len : Int) - 1 < 0 then 0 else (t.len : Int) - 1) = (t.len : Int) - 1 from if_neg (by omega)]
    split <;> omega)
  have CH := Lib.hid (change_ins (K0 := fun b => b = bt ∨ b = bx ∨ b = bn ∨ b = w.heap.size) (Boxes := InsBoxes bt bx bn w.heap.size q x y t.len i) (F := insF x y t.len i) (m := 4) (q := q) (p := p) (bt := bt) (bx := bx) (bn := bn) (bi := w.heap.size)
    (fun K W W' hK hk hb => hb.kept hk hK) (mild_ins x y t.len i) (fun K s B L W h a b hK g hB hx fm hr ha hb => ins_one g hB hx fm Rx.out Ry.out (by omega) hr ha hb hK) t (min i (t.len - 1)) h K2 s B L w3.drew HK0.out G.out (by omega) Hx.out Fm.out hb (by omega) (by omega) (by omega) (by omega) HT.out.drew (Hbo.out.kept (Kept.refl K2 w3).drew HK0.out))
  have Hl := Lib.hid (ins_list (x := x) (y := y) hb hi)
  go_region_held3 (fun w' => w'.cell? ⟨bt, 0, none⟩ = some (.pointer (some ⟨q, 0, none⟩)) ∧ w'.cell? ⟨w.heap.size, 0, none⟩ = some (.int .i64 i) ∧ w'.cell? ⟨bn, 0, none⟩ = some (.int .i64 t.len)) (go_keep) (first | (go_at_call 32; rw [hmm.out]; refine CH.out.mono ?_; rintro e w4 ⟨z, s', rfl, ha4, hk4, g4, e4, r4, b4⟩; obtain ⟨⟨d0, _, _⟩, dn, di⟩ := (Hbo.out.kept (Kept.refl K2 w3).drew HK0.out).kept hk4 HK0.out; have T4 := Lib.hid ha4; have Hk4 := Lib.hid hk4; have G4 := Lib.hid g4; have E4 := Lib.hid e4; have R4 := Lib.hid r4; have B4 := Lib.hid b4; clear ha4 hk4 g4 e4 r4 b4) | (go_at_call 31; refine (told_ok z T4.out).mono ?_; rintro e w' ⟨rfl, rfl⟩))
  all_goals
    go_wp2_with fail
    go_ret2
    have b4 := B4.out
    exact ⟨z, s', rfl, T4.out.ars.more fun b hb => .inl (HKK.out b hb), (Kept.of_below B3.out K).drew.trans (Hk4.out.mono fun b _ hb => HKK.out b hb), G4.out.mono (by omega), E4.out, ⟨_, R4.out, .inr (tchange_grows (fun a b => ⟨(insF_item x y t.len i a b).1, (insF_item x y t.len i a b).2.1⟩) t _ hb).1, Hl.out⟩, by omega⟩
end
end Go.Proofs.Ytlnnljkifdmmlaa
