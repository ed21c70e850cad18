/- A tree of package bits that makes nodes: a bit more. -/
import Derived.Test.YtdipgcbppggdhaaGpD
namespace Go.Proofs.Ytdipgcbppggdhaa
set_option maxRecDepth 100000
open Go.RowKit

section
variable {q p : Nat} {one : Bool}
/-- Behind the look at the left one's length. -/
structure BDown (K : Nat → Prop) (q p : Nat) (s : Ar) (e : Int) (z : Nat) (k0 k1 m o : Int) (w W : World) : Prop where
  tre : BTre W K q p s e
  box : W.heap[z]? = some (.cells #[.int .i64 2, .int .i64 k0, .int .i64 k1, .int .i64 0, .int .i64 0, .int .u64 m, .int .u64 o] 47 (0, 0))
  below : Below w.heap.size w W
set_option maxRecDepth 100000 in
set_option maxHeartbeats 16000000 in
theorem bins_is {s s' : Ar} {e e' h r : Int} {i : Nat} (hw : Ins one s e h i s' e' r) : ∀ (K : Nat → Prop) (w : World), BTre w K q p s e →
    Calls Try.prog 62 #[.pointer (some ⟨q, 0, none⟩), .int .i64 h, .int .i64 i, .bool one] w fun o w' => o = .returned (.int .i64 r) ∧ BTre w' K q p s' e' ∧ Kept K w w' := by
  induction hw with
  | @none s s' e e' h r i hv hl =>
    intro K w ha
    have c0 := ha.c0
    obtain ⟨x, hx⟩ := row_none hv ha.ars hl.snd.fit
    have H := Lib.hid hx
    have Ha := Lib.hid ha
    have HI := fun w => Lib.hid (show Calls Try.prog 77 #[.agg #[.int .u64 0, .int .i64 0], .int .i64 0, .bool one] w fun e w' => e = .returned (.tuple #[.agg #[.int .u64 (bN [one]), .int .i64 ([one] : List Bool).length], .bool true]) ∧ Below w.heap.size w w' from lins_yes [] 0 one w (by decide) (Nat.le_refl _))
    have HLf := fun w ha => Lib.hid (bleaf_is (w := w) (K := K) (q := q) (p := p) hl ha)
    have hlen : ([one] : List Bool).length = 1 := rfl
    rw [hlen] at HI HLf
    clear ha hv hx hl hlen
    generalize (bN [one] : Int) = V at *
    go_enter Try.func62, Try.ntmps62
    go_wp2_with fail
    refine H.out.mono ?_
    rintro o w1 ⟨rfl, ha1, hk1⟩
    have B1 := Lib.hid (hk1.alloc hk1.size (.cells #[.int .i64 x.tag, .int .i64 x.k0, .int .i64 x.k1, .int .i64 x.k2, .int .i64 x.k3, .int .u64 x.A, .int .u64 x.B] 47))
    clear ha1 hk1 H
    go_wp2_with fail
    refine (HI _).out.mono ?_
    rintro o w2 ⟨rfl, hk2⟩
    have B2 := Lib.hid ((B1.out.trans (hk2.mono B1.out.size)).alloc (Nat.le_trans B1.out.size hk2.size) (.cells #[.int .u64 V, .int .i64 1] 71))
    clear hk2 B1
    go_wp2_with fail
    refine (HLf _ (Ha.out.below B2.out)).out.mono ?_
    rintro o w3 ⟨rfl, h3, k3⟩
    go_wp2_with fail
    go_ret
    exact ⟨rfl, h3, (Kept.of_below B2.out K).trans k3⟩
  | @leaf s s' e e' h r i l hv hi hlt hl =>
    intro K w ha
    have c0 := ha.c0
    have H := Lib.hid (row_leaf hv ha.ars hl.snd.fit)
    have hl64 := hv.2.2
    have Ha := Lib.hid ha
    have HB := fun w => Lib.hid (bbits_is l w hl64)
    have hl6 : (l.length : Int) ≤ 64 := by omega
    have HI := fun w => Lib.hid (lins_yes l i one w hlt hi)
    have HLf := fun w ha => Lib.hid (bleaf_is (w := w) (K := K) (q := q) (p := p) hl ha)
    have hi6 : (i : Int) ≤ 64 := by omega
    clear hl hi hlt hl64
    clear ha hv
    go_enter Try.func62, Try.ntmps62
    go_wp2_with fail
    refine H.out.mono ?_
    rintro o w1 ⟨rfl, ha1, hk1⟩
    have B1 := Lib.hid (hk1.alloc hk1.size (.cells #[.int .i64 1, .int .i64 0, .int .i64 0, .int .i64 0, .int .i64 0, .int .u64 (bN l), .int .u64 l.length] 47))
    clear ha1 hk1 H
    go_wp2_with fail
    refine (HB _).out.mono ?_
    rintro o w2 ⟨rfl, hk2⟩
    have B2 := Lib.hid (B1.out.trans (hk2.mono B1.out.size))
    clear hk2 B1 HB
    go_wp2_with fail
    have B3 := Lib.hid (B2.out.alloc B2.out.size (.cells #[.int .u64 (bN l), .int .i64 l.length] 71))
    refine (HI _).out.mono ?_
    rintro o w3 ⟨rfl, hk3⟩
    have B4 := Lib.hid ((B3.out.trans (hk3.mono B3.out.size)).alloc (Nat.le_trans B3.out.size hk3.size) (.cells #[.int .u64 (bN (bIns l i one)), .int .i64 (bIns l i one).length] 71))
    clear hk3 B2 B3
    go_wp2_with fail
    refine (HLf _ (Ha.out.below B4.out)).out.mono ?_
    rintro o w4 ⟨rfl, h4, k4⟩
    go_wp2_with fail
    go_ret
    exact ⟨rfl, h4, (Kept.of_below B4.out K).trans k4⟩
  | @split s s1 s2 s' e e1 e2 e' h x y r i l hv hi hlt hc hl1 hl2 hp =>
    intro K w ha
    have c0 := ha.c0
    have H := Lib.hid (row_leaf hv ha.ars hl1.snd.fit)
    have hl64 := hv.2.2
    have Ha := Lib.hid ha
    have HB := fun w => Lib.hid (bbits_is l w hl64)
    have hl6 : (l.length : Int) ≤ 64 := by omega
    have t1 : (l.take 32).length = 32 := by rw [List.length_take]; omega
    have t2 : (l.drop 32).length = 32 := by rw [List.length_drop]; omega
    have HN := fun w => lins_no l i one w hlt hi
    have HS := fun w => lsplit_is l 32 w hl64 (by omega)
    have HI := fun w => lins_yes (l.take 32) i one w (by omega) (by omega)
    have L1 := fun K w ha => bleaf_is (w := w) (K := K) (q := q) (p := p) hl1 ha
    have L2 := fun K w ha => bleaf_is (w := w) (K := K) (q := q) (p := p) hl2 ha
    have HP := fun K w ha => Lib.hid (bpairOr_is (w := w) (K := K) (q := q) (p := p) hp ha)
    have n1 : (bIns (l.take 32) i one).length = 33 := by rw [bIns_len (by omega)]; omega
    rw [n1] at HI L1
    rw [t2] at L2
    rw [t1] at HI
    rw [hlt] at HN HS
    rw [show (64 - 32 : Nat) = 32 from rfl] at HS
    replace HN := fun w => Lib.hid (HN w)
    replace HS := fun w => Lib.hid (HS w)
    replace HI := fun w => Lib.hid (HI w)
    replace L1 := fun K w ha => Lib.hid (L1 K w ha)
    replace L2 := fun K w ha => Lib.hid (L2 K w ha)
    have hi6 : (i : Int) ≤ 64 := by omega
    have hc6 : (i : Int) ≤ 32 := by omega
    rw [hlt] at H HB
    clear hi hl1 hl2 hp t1 t2 n1 hc hl64 hl6 hlt
    clear ha hv
    generalize (bN l : Int) = V at *
    generalize (bN (bIns (l.take 32) i one) : Int) = X at *
    generalize (bN (l.take 32) : Int) = R at *
    generalize (bN (l.drop 32) : Int) = Y at *
    go_enter Try.func62, Try.ntmps62
    go_wp2_with fail
    refine H.out.mono ?_
    rintro o w1 ⟨rfl, ha1, hk1⟩
    have B1 := Lib.hid (hk1.alloc hk1.size (.cells #[.int .i64 1, .int .i64 0, .int .i64 0, .int .i64 0, .int .i64 0, .int .u64 V, .int .u64 64] 47))
    clear ha1 hk1 H
    go_wp2_with fail
    refine (HB _).out.mono ?_
    rintro o w2 ⟨rfl, hk2⟩
    have B2 := Lib.hid (B1.out.trans (hk2.mono B1.out.size))
    clear hk2 B1 HB
    go_wp2_with fail
    have B3 := Lib.hid (B2.out.alloc B2.out.size (.cells #[.int .u64 V, .int .i64 64] 71))
    have hx := heap_alloc_new w2 (.cells #[.int .u64 V, .int .i64 64] 71)
    have hz2 : w.heap.size ≤ w2.heap.size := B2.out.size
    refine (HN _).out.mono ?_
    rintro o w3 ⟨rfl, hk3⟩
    have B4 := Lib.hid ((B3.out.trans (hk3.mono B3.out.size)).alloc (Nat.le_trans B3.out.size hk3.size) (.cells #[.int .u64 0, .int .i64 0] 71))
    have hx3 := (Below.heap_alloc w3 (.cells #[.int .u64 0, .int .i64 0] 71) _ (Nat.lt_of_lt_of_le (lt_heap hx) hk3.size)).trans ((hk3.block _ (lt_heap hx)).trans hx)
    have e0 : (w3.alloc (.cells #[.int .u64 0, .int .i64 0] 71)).cell? ⟨w2.heap.size, 0, none⟩ = some (.int .u64 V) := cell_of_row _ _ _ _ _ _ hx3
    have e1 : (w3.alloc (.cells #[.int .u64 0, .int .i64 0] 71)).cell? ⟨w2.heap.size, 1, none⟩ = some (.int .i64 64) := cell_of_row _ _ _ _ _ _ hx3
    have e2 : w2.heap.size ≠ w3.heap.size := by have := Nat.lt_of_lt_of_le (lt_heap hx) hk3.size; omega
    clear hk3 B2 B3 hx
    go_wp2_with fail
    refine (HS _).out.mono ?_
    rintro o w4 ⟨rfl, hk4⟩
    have B5 := Lib.hid (B4.out.trans (hk4.mono B4.out.size))
    clear hk4 e0 e1 hx3 e2 B4
    go_wp2_with fail
    refine (HI _).out.mono ?_
    rintro o w5 ⟨rfl, hk5⟩
    have hp16 := (hk5.block w4.heap.size (by simp; omega)).trans ((Below.heap_alloc _ _ _ (by simp)).trans (heap_alloc_new w4 (.cells #[.int .u64 R, .int .i64 32] 71)))
    have hp17 := (hk5.block (w4.heap.size + 1) (by simp)).trans (al2_1 w4 (.cells #[.int .u64 R, .int .i64 32] 71) (.cells #[.int .u64 Y, .int .i64 32] 71))
    have B6 := Lib.hid (((B5.out.alloc B5.out.size (.cells #[.int .u64 R, .int .i64 32] 71)).alloc (by have := B5.out.size; simp; omega) (.cells #[.int .u64 Y, .int .i64 32] 71)).trans (hk5.mono (by have := B5.out.size; simp; omega)))
    have hw16 : w.heap.size ≤ w4.heap.size := B5.out.size
    have hw17 : w.heap.size ≤ w4.heap.size + 1 := by omega
    have hne : w4.heap.size ≠ w4.heap.size + 1 := by omega
    clear hk5 B5
    generalize w4.heap.size + 1 = b17 at *
    generalize w4.heap.size = b16 at *
    have a0 : w5.cell? ⟨b16, 0, none⟩ = some (.int .u64 R) := cell_of_row _ _ _ _ _ _ hp16
    have a1 : w5.cell? ⟨b16, 1, none⟩ = some (.int .i64 32) := cell_of_row _ _ _ _ _ _ hp16
    have af : ∀ j, w5.frozen? ⟨b16, j, none⟩ = false := fun j => frozen_of_row _ _ _ _ _ hp16
    have d0 : w5.cell? ⟨b17, 0, none⟩ = some (.int .u64 Y) := cell_of_row _ _ _ _ _ _ hp17
    have d1 : w5.cell? ⟨b17, 1, none⟩ = some (.int .i64 32) := cell_of_row _ _ _ _ _ _ hp17
    have df : ∀ j, w5.frozen? ⟨b17, j, none⟩ = false := fun j => frozen_of_row _ _ _ _ _ hp17
    have B7 := Lib.hid ((B6.out.setCell (p := ⟨b16, 0, none⟩) hw16 (.int .u64 X)).setCell (p := ⟨b16, 1, none⟩) hw16 (.int .i64 ((33 : Nat) : Int)))
    obtain ⟨K1, hK1⟩ : ∃ K1 : Nat → Prop, K1 = fun b => K b ∨ b = b16 ∨ b = b17 := ⟨_, rfl⟩
    have T7 := Lib.hid (Ha.out.newK (K' := K1) B7.out fun b hb => by
      rw [hK1] at hb
      have hsz : (((w5.setCell ⟨b16, 0, none⟩ (.int .u64 X)).setCell ⟨b16, 1, none⟩ (.int .i64 ((33 : Nat) : Int)))).heap.size = w5.heap.size := by simp [World.setCell]
      rw [hsz]
      rcases hb with hb | rfl | rfl
      · exact ⟨Nat.lt_of_lt_of_le (Ha.out.ars.lt b (.inl hb)) B6.out.size, .inl hb⟩
      · exact ⟨lt_heap hp16, .inr hw16⟩
      · exact ⟨lt_heap hp17, .inr hw17⟩)
    have k17 := Lib.hid (show K1 b17 by rw [hK1]; exact .inr (.inr rfl))
    have hKK := Lib.hid (show ∀ b, K b → K1 b from fun b hb => by rw [hK1]; exact .inl hb)
    have hq17 : (((w5.setCell ⟨b16, 0, none⟩ (.int .u64 X)).setCell ⟨b16, 1, none⟩ (.int .i64 ((33 : Nat) : Int)))).heap[b17]? = some (.cells #[.int .u64 Y, .int .i64 32] 71 (0, 0)) := by
      rw [heap_setCell_other _ _ _ _ hne.symm, heap_setCell_other _ _ _ _ hne.symm]; exact hp17
    have Hq17 := Lib.hid hq17
    clear hK1 hp16 hp17 hq17
    go_wp2_with fail
    refine (L1 K1 _ T7.out).out.mono ?_
    rintro o w6 ⟨rfl, h6, k6⟩
    have T8 := Lib.hid h6
    have Hk6 := Lib.hid k6
    have hr17 := (k6.block _ (lt_heap Hq17.out) k17.out).trans Hq17.out
    have g0 : w6.cell? ⟨b17, 0, none⟩ = some (.int .u64 Y) := cell_of_row _ _ _ _ _ _ hr17
    have g1 : w6.cell? ⟨b17, 1, none⟩ = some (.int .i64 32) := cell_of_row _ _ _ _ _ _ hr17
    clear h6 k6 hr17 a0 a1 af d0 d1 df
    go_wp2_with fail
    refine (L2 K1 _ T8.out).out.mono ?_
    rintro o w7 ⟨rfl, h7, k7⟩
    have T9 := Lib.hid h7
    have Hk7 := Lib.hid k7
    clear h7 k7
    go_wp2_with fail
    refine (HP K1 _ T9.out).out.mono ?_
    rintro o w8 ⟨rfl, h8, k8⟩
    go_wp2_with fail
    go_ret
    exact ⟨rfl, h8.more hKK.out, (((Kept.of_below B7.out K).trans (Hk6.out.mono fun b _ h => hKK.out b h)).trans (Hk7.out.mono fun b _ h => hKK.out b h)).trans (k8.mono fun b _ h => hKK.out b h)⟩
  | @split' s s1 s2 s' e e1 e2 e' h x y r i l hv hi hlt hc hl1 hl2 hp =>
    intro K w ha
    have c0 := ha.c0
    have H := Lib.hid (row_leaf hv ha.ars hl1.snd.fit)
    have hl64 := hv.2.2
    have Ha := Lib.hid ha
    have HB := fun w => Lib.hid (bbits_is l w hl64)
    have hl6 : (l.length : Int) ≤ 64 := by omega
    have t1 : (l.take 32).length = 32 := by rw [List.length_take]; omega
    have t2 : (l.drop 32).length = 32 := by rw [List.length_drop]; omega
    have HN := fun w => lins_no l i one w hlt hi
    have HS := fun w => lsplit_is l 32 w hl64 (by omega)
    have HI := fun w => lins_yes (l.drop 32) (i - 32) one w (by omega) (by omega)
    have L1 := fun K w ha => bleaf_is (w := w) (K := K) (q := q) (p := p) hl1 ha
    have L2 := fun K w ha => bleaf_is (w := w) (K := K) (q := q) (p := p) hl2 ha
    have HP := fun K w ha => Lib.hid (bpairOr_is (w := w) (K := K) (q := q) (p := p) hp ha)
    have n1 : (bIns (l.drop 32) (i - 32) one).length = 33 := by rw [bIns_len (by omega)]; omega
    rw [n1] at HI L2
    rw [t1] at L1
    rw [t2] at HI
    rw [hlt] at HN HS
    rw [show (64 - 32 : Nat) = 32 from rfl] at HS
    replace HN := fun w => Lib.hid (HN w)
    replace HS := fun w => Lib.hid (HS w)
    replace HI := fun w => Lib.hid (HI w)
    replace L1 := fun K w ha => Lib.hid (L1 K w ha)
    replace L2 := fun K w ha => Lib.hid (L2 K w ha)
    have hi6 : (i : Int) ≤ 64 := by omega
    have hc6 : 32 < (i : Int) := by omega
    have hw6 : IntKind.i64.wrap ((i : Int) - 32) = ((i - 32 : Nat) : Int) := by rw [bwrap_small (by omega) (by omega)]; omega
    have hw7 : ((i - 32 : Nat) : Int) = (i : Int) - 32 := by omega
    rw [hw7] at HI
    clear hw6 hw7
    rw [hlt] at H HB
    clear hi hl1 hl2 hp t1 t2 n1 hc hl64 hl6 hlt
    clear ha hv
    generalize (bN l : Int) = V at *
    generalize (bN (l.take 32) : Int) = X at *
    generalize (bN (bIns (l.drop 32) (i - 32) one) : Int) = Y at *
    generalize (bN (l.drop 32) : Int) = R at *
    go_enter Try.func62, Try.ntmps62
    go_wp2_with fail
    refine H.out.mono ?_
    rintro o w1 ⟨rfl, ha1, hk1⟩
    have B1 := Lib.hid (hk1.alloc hk1.size (.cells #[.int .i64 1, .int .i64 0, .int .i64 0, .int .i64 0, .int .i64 0, .int .u64 V, .int .u64 64] 47))
    clear ha1 hk1 H
    go_wp2_with fail
    refine (HB _).out.mono ?_
    rintro o w2 ⟨rfl, hk2⟩
    have B2 := Lib.hid (B1.out.trans (hk2.mono B1.out.size))
    clear hk2 B1 HB
    go_wp2_with fail
    have B3 := Lib.hid (B2.out.alloc B2.out.size (.cells #[.int .u64 V, .int .i64 64] 71))
    have hx := heap_alloc_new w2 (.cells #[.int .u64 V, .int .i64 64] 71)
    have hz2 : w.heap.size ≤ w2.heap.size := B2.out.size
    refine (HN _).out.mono ?_
    rintro o w3 ⟨rfl, hk3⟩
    have B4 := Lib.hid ((B3.out.trans (hk3.mono B3.out.size)).alloc (Nat.le_trans B3.out.size hk3.size) (.cells #[.int .u64 0, .int .i64 0] 71))
    have hx3 := (Below.heap_alloc w3 (.cells #[.int .u64 0, .int .i64 0] 71) _ (Nat.lt_of_lt_of_le (lt_heap hx) hk3.size)).trans ((hk3.block _ (lt_heap hx)).trans hx)
    have e0 : (w3.alloc (.cells #[.int .u64 0, .int .i64 0] 71)).cell? ⟨w2.heap.size, 0, none⟩ = some (.int .u64 V) := cell_of_row _ _ _ _ _ _ hx3
    have e1 : (w3.alloc (.cells #[.int .u64 0, .int .i64 0] 71)).cell? ⟨w2.heap.size, 1, none⟩ = some (.int .i64 64) := cell_of_row _ _ _ _ _ _ hx3
    have e2 : w2.heap.size ≠ w3.heap.size := by have := Nat.lt_of_lt_of_le (lt_heap hx) hk3.size; omega
    clear hk3 B2 B3 hx
    go_wp2_with fail
    refine (HS _).out.mono ?_
    rintro o w4 ⟨rfl, hk4⟩
    have B5 := Lib.hid (B4.out.trans (hk4.mono B4.out.size))
    clear hk4 e0 e1 hx3 e2 B4
    go_wp2_with fail
    refine (HI _).out.mono ?_
    rintro o w5 ⟨rfl, hk5⟩
    have hp16 := (hk5.block w4.heap.size (by simp; omega)).trans ((Below.heap_alloc _ _ _ (by simp)).trans (heap_alloc_new w4 (.cells #[.int .u64 X, .int .i64 32] 71)))
    have hp17 := (hk5.block (w4.heap.size + 1) (by simp)).trans (al2_1 w4 (.cells #[.int .u64 X, .int .i64 32] 71) (.cells #[.int .u64 R, .int .i64 32] 71))
    have B6 := Lib.hid (((B5.out.alloc B5.out.size (.cells #[.int .u64 X, .int .i64 32] 71)).alloc (by have := B5.out.size; simp; omega) (.cells #[.int .u64 R, .int .i64 32] 71)).trans (hk5.mono (by have := B5.out.size; simp; omega)))
    have hw16 : w.heap.size ≤ w4.heap.size := B5.out.size
    have hw17 : w.heap.size ≤ w4.heap.size + 1 := by omega
    have hne : w4.heap.size ≠ w4.heap.size + 1 := by omega
    clear hk5 B5
    generalize w4.heap.size + 1 = b17 at *
    generalize w4.heap.size = b16 at *
    have a0 : w5.cell? ⟨b16, 0, none⟩ = some (.int .u64 X) := cell_of_row _ _ _ _ _ _ hp16
    have a1 : w5.cell? ⟨b16, 1, none⟩ = some (.int .i64 32) := cell_of_row _ _ _ _ _ _ hp16
    have af : ∀ j, w5.frozen? ⟨b16, j, none⟩ = false := fun j => frozen_of_row _ _ _ _ _ hp16
    have d0 : w5.cell? ⟨b17, 0, none⟩ = some (.int .u64 R) := cell_of_row _ _ _ _ _ _ hp17
    have d1 : w5.cell? ⟨b17, 1, none⟩ = some (.int .i64 32) := cell_of_row _ _ _ _ _ _ hp17
    have df : ∀ j, w5.frozen? ⟨b17, j, none⟩ = false := fun j => frozen_of_row _ _ _ _ _ hp17
    have B7 := Lib.hid ((B6.out.setCell (p := ⟨b17, 0, none⟩) hw17 (.int .u64 Y)).setCell (p := ⟨b17, 1, none⟩) hw17 (.int .i64 ((33 : Nat) : Int)))
    obtain ⟨K1, hK1⟩ : ∃ K1 : Nat → Prop, K1 = fun b => K b ∨ b = b16 ∨ b = b17 := ⟨_, rfl⟩
    have T7 := Lib.hid (Ha.out.newK (K' := K1) B7.out fun b hb => by
      rw [hK1] at hb
      have hsz : (((w5.setCell ⟨b17, 0, none⟩ (.int .u64 Y)).setCell ⟨b17, 1, none⟩ (.int .i64 ((33 : Nat) : Int)))).heap.size = w5.heap.size := by simp [World.setCell]
      rw [hsz]
      rcases hb with hb | rfl | rfl
      · exact ⟨Nat.lt_of_lt_of_le (Ha.out.ars.lt b (.inl hb)) B6.out.size, .inl hb⟩
      · exact ⟨lt_heap hp16, .inr hw16⟩
      · exact ⟨lt_heap hp17, .inr hw17⟩)
    have k17 := Lib.hid (show K1 b17 by rw [hK1]; exact .inr (.inr rfl))
    have hKK := Lib.hid (show ∀ b, K b → K1 b from fun b hb => by rw [hK1]; exact .inl hb)
    have hq17 : (((w5.setCell ⟨b17, 0, none⟩ (.int .u64 Y)).setCell ⟨b17, 1, none⟩ (.int .i64 ((33 : Nat) : Int)))).heap[b17]? = some (.cells #[.int .u64 Y, .int .i64 ((33 : Nat) : Int)] 71 (0, 0)) := by
      rw [heap_setCell_same _ _ _ _ _ _ (heap_setCell_same _ _ _ _ _ _ hp17)]; rfl
    have Hq17 := Lib.hid hq17
    clear hK1 hp16 hp17 hq17
    go_wp2_with fail
    refine (L1 K1 _ T7.out).out.mono ?_
    rintro o w6 ⟨rfl, h6, k6⟩
    have T8 := Lib.hid h6
    have Hk6 := Lib.hid k6
    have hr17 := (k6.block _ (lt_heap Hq17.out) k17.out).trans Hq17.out
    have g0 : w6.cell? ⟨b17, 0, none⟩ = some (.int .u64 Y) := cell_of_row _ _ _ _ _ _ hr17
    have g1 : w6.cell? ⟨b17, 1, none⟩ = some (.int .i64 ((33 : Nat) : Int)) := cell_of_row _ _ _ _ _ _ hr17
    clear h6 k6 hr17 a0 a1 af d0 d1 df
    go_wp2_with fail
    refine (L2 K1 _ T8.out).out.mono ?_
    rintro o w7 ⟨rfl, h7, k7⟩
    have T9 := Lib.hid h7
    have Hk7 := Lib.hid k7
    clear h7 k7
    go_wp2_with fail
    refine (HP K1 _ T9.out).out.mono ?_
    rintro o w8 ⟨rfl, h8, k8⟩
    go_wp2_with fail
    go_ret
    exact ⟨rfl, h8.more hKK.out, (((Kept.of_below B7.out K).trans (Hk6.out.mono fun b _ h => hKK.out b h)).trans (Hk7.out.mono fun b _ h => hKK.out b h)).trans (k8.mono fun b _ h => hKK.out b h)⟩
  | @right s s2 s' e e2 e' h k0 k1 x r i m o v hv sn hi hv0 hil _ hf ih =>
    intro K w ha
    have c0 := ha.c0
    have H := Lib.hid (row_fork hv ha.ars sn.fit)
    have Ha := Lib.hid ha
    have SN := Lib.hid sn
    have HV0 := Lib.hid hv0
    have hlen : v.len ≤ 1000000 := hv0.big.1
    have hgl : (v.len : Int) < (i : Int) := by omega
    have hi6 : (i : Int) ≤ 1000000 := by omega
    have hwr : IntKind.i64.wrap ((i : Int) - (v.len : Int)) = ((i - v.len : Nat) : Int) := by rw [bwrap_small (by omega) (by omega)]; omega
    have IH := Lib.hid ih
    have HF := Lib.hid hf
    clear ih hf hi
    clear ha hv sn hv0
    go_enter Try.func62, Try.ntmps62
    go_wp2_with fail
    refine H.out.mono ?_
    clear H
    rintro e w1 ⟨rfl, ha, hk⟩
    go_wp2_with fail
    have HB := Lib.hid (hk.alloc hk.size (.cells #[.int .i64 2, .int .i64 k0, .int .i64 k1, .int .i64 0, .int .i64 0, .int .u64 m, .int .u64 o] 47))
    have hx := heap_alloc_new w1 (.cells #[.int .i64 2, .int .i64 k0, .int .i64 k1, .int .i64 0, .int .i64 0, .int .u64 m, .int .u64 o] 47)
    have hzw : w.heap.size ≤ w1.heap.size := hk.size
    generalize w1.alloc (.cells #[.int .i64 2, .int .i64 k0, .int .i64 k1, .int .i64 0, .int .i64 0, .int .u64 m, .int .u64 o] 47) = w2 at *
    generalize w1.heap.size = z at *
    obtain ⟨K1, hK1⟩ : ∃ K1 : Nat → Prop, K1 = fun b => K b ∨ b = z := ⟨_, rfl⟩
    have HA : Hid (BTre w2 K1 q p s e) := Ha.out.newK HB.out fun b hb => by
      rw [hK1] at hb
      rcases hb with hb | rfl
      · exact ⟨Nat.lt_of_lt_of_le (Ha.out.ars.lt b (.inl hb)) HB.out.size, .inl hb⟩
      · exact ⟨lt_heap hx, .inr hzw⟩
    have zK := Lib.hid (show K1 z by rw [hK1]; exact .inr rfl)
    have hKK := Lib.hid (show ∀ b, K b → K1 b from fun b hb => by rw [hK1]; exact .inl hb)
    clear hK1
    have HL := fun W (ha : Ars W (fun b => K1 b ∨ b = q) p s) => Lib.hid (blen_is HV0.out ha SN.out.fit)
    have c0 := HA.out.c0
    have y1 : w2.cell? ⟨z, 1, none⟩ = some (.int .i64 k0) := cell_of_row _ _ _ _ _ _ hx
    have Hx := Lib.hid hx
    clear hx ha hk
    go_upto_region 16 with fail
    go_cut [19] (fun a W => a = .int .i64 v.len ∧ BDown K1 q p s e z k0 k1 m o w W)
    case first =>
      go_region_with (go_at_call 34; refine (HL _ HA.out.drew.ars).out.mono ?_; rintro o w3 ⟨rfl, ha3, hk3⟩; have D3 := Lib.hid (show BDown K1 q p s e z k0 k1 _ _ w w3 from ⟨HA.out.drew.below hk3, (hk3.block z (lt_heap Hx.out)).trans Hx.out, HB.out.drew.trans (hk3.mono HB.out.size)⟩); clear ha3 hk3)
      all_goals
        go_wp2_with fail
        go_meet
        case rel => exact ⟨rfl, D3.out⟩
    case rest =>
    obtain ⟨rfl, hd⟩ := hcut
    clear HL HA c0 y1 Hx HB
    obtain ⟨w3, rfl⟩ : ∃ w3 : World, w3 = wc := ⟨_, rfl⟩
    have T3 := Lib.hid hd.tre
    have Hx3 := Lib.hid hd.box
    have Hk3 := Lib.hid hd.below
    clear hd
    have y31 : w3.cell? ⟨z, 1, none⟩ = some (.int .i64 k0) := cell_of_row _ _ _ _ _ _ Hx3.out
    have y32 : w3.cell? ⟨z, 2, none⟩ = some (.int .i64 k1) := cell_of_row _ _ _ _ _ _ Hx3.out
    go_wp2_with fail
    go_region_with (first | (go_at_call 82; refine (bkeep_is (w := w3.drew) (K := K1) (q := q) (p := p) (s := s) (e := e) k0 SN.out.fit T3.out.drew).mono ?_; rintro o w4 ⟨rfl, ha4, hk4⟩; have T4 := Lib.hid ha4; have Hx4 := Lib.hid ((hk4.block z (lt_heap Hx3.out) zK.out).trans Hx3.out); have y4 : w4.cell? ⟨z, 2, none⟩ = some (.int .i64 k1) := cell_of_row _ _ _ _ _ _ Hx4.out; have Hk4 := Lib.hid hk4; clear ha4 hk4) | (go_at_call 62; refine (IH.out K1 w4 T4.out).mono ?_; rintro o w5 ⟨rfl, ha5, hk5⟩; have T5 := Lib.hid ha5; have Hk5 := Lib.hid hk5; clear ha5 hk5) | (go_at_call 81; refine (bfork_walk HF.out T5.out).mono ?_; rintro o w6 ⟨rfl, ha6, hk6⟩; have T6 := Lib.hid ha6; have Hk6 := Lib.hid hk6; clear ha6 hk6))
    all_goals
      go_wp2_with fail
      go_ret
      exact ⟨rfl, T6.out.more hKK.out, (((Kept.of_below Hk3.out K).drew.trans (Hk4.out.mono fun b _ h => hKK.out b h)).trans (Hk5.out.mono fun b _ h => hKK.out b h)).trans (Hk6.out.mono fun b _ h => hKK.out b h)⟩
  | @left s s1 s' e e1 e' h k0 k1 x r i m o v hv sn hi hv0 hil _ sn1 hf ih =>
    intro K w ha
    have c0 := ha.c0
    have H := Lib.hid (row_fork hv ha.ars sn.fit)
    have Ha := Lib.hid ha
    have SN := Lib.hid sn
    have HV0 := Lib.hid hv0
    have hlen : v.len ≤ 1000000 := hv0.big.1
    have hgl : (i : Int) ≤ (v.len : Int) := by omega
    have IH := Lib.hid ih
    have HF := Lib.hid hf
    have SN1 := Lib.hid sn1
    clear ih hf hi sn1
    clear ha hv sn hv0
    go_enter Try.func62, Try.ntmps62
    go_wp2_with fail
    refine H.out.mono ?_
    clear H
    rintro e w1 ⟨rfl, ha, hk⟩
    go_wp2_with fail
    have HB := Lib.hid (hk.alloc hk.size (.cells #[.int .i64 2, .int .i64 k0, .int .i64 k1, .int .i64 0, .int .i64 0, .int .u64 m, .int .u64 o] 47))
    have hx := heap_alloc_new w1 (.cells #[.int .i64 2, .int .i64 k0, .int .i64 k1, .int .i64 0, .int .i64 0, .int .u64 m, .int .u64 o] 47)
    have hzw : w.heap.size ≤ w1.heap.size := hk.size
    generalize w1.alloc (.cells #[.int .i64 2, .int .i64 k0, .int .i64 k1, .int .i64 0, .int .i64 0, .int .u64 m, .int .u64 o] 47) = w2 at *
    generalize w1.heap.size = z at *
    obtain ⟨K1, hK1⟩ : ∃ K1 : Nat → Prop, K1 = fun b => K b ∨ b = z := ⟨_, rfl⟩
    have HA : Hid (BTre w2 K1 q p s e) := Ha.out.newK HB.out fun b hb => by
      rw [hK1] at hb
      rcases hb with hb | rfl
      · exact ⟨Nat.lt_of_lt_of_le (Ha.out.ars.lt b (.inl hb)) HB.out.size, .inl hb⟩
      · exact ⟨lt_heap hx, .inr hzw⟩
    have zK := Lib.hid (show K1 z by rw [hK1]; exact .inr rfl)
    have hKK := Lib.hid (show ∀ b, K b → K1 b from fun b hb => by rw [hK1]; exact .inl hb)
    clear hK1
    have HL := fun W (ha : Ars W (fun b => K1 b ∨ b = q) p s) => Lib.hid (blen_is HV0.out ha SN.out.fit)
    have c0 := HA.out.c0
    have y1 : w2.cell? ⟨z, 1, none⟩ = some (.int .i64 k0) := cell_of_row _ _ _ _ _ _ hx
    have Hx := Lib.hid hx
    clear hx ha hk
    go_upto_region 16 with fail
    go_cut [19] (fun a W => a = .int .i64 v.len ∧ BDown K1 q p s e z k0 k1 m o w W)
    case first =>
      go_region_with (go_at_call 34; refine (HL _ HA.out.drew.ars).out.mono ?_; rintro o w3 ⟨rfl, ha3, hk3⟩; have D3 := Lib.hid (show BDown K1 q p s e z k0 k1 _ _ w w3 from ⟨HA.out.drew.below hk3, (hk3.block z (lt_heap Hx.out)).trans Hx.out, HB.out.drew.trans (hk3.mono HB.out.size)⟩); clear ha3 hk3)
      all_goals
        go_wp2_with fail
        go_meet
        case rel => exact ⟨rfl, D3.out⟩
    case rest =>
    obtain ⟨rfl, hd⟩ := hcut
    clear HL HA c0 y1 Hx HB
    obtain ⟨w3, rfl⟩ : ∃ w3 : World, w3 = wc := ⟨_, rfl⟩
    have T3 := Lib.hid hd.tre
    have Hx3 := Lib.hid hd.box
    have Hk3 := Lib.hid hd.below
    clear hd
    have y31 : w3.cell? ⟨z, 1, none⟩ = some (.int .i64 k0) := cell_of_row _ _ _ _ _ _ Hx3.out
    have y32 : w3.cell? ⟨z, 2, none⟩ = some (.int .i64 k1) := cell_of_row _ _ _ _ _ _ Hx3.out
    go_wp2_with fail
    go_region_with (first | (go_at_call 62; refine (IH.out K1 _ T3.out.drew).mono ?_; rintro o w4 ⟨rfl, ha4, hk4⟩; have T4 := Lib.hid ha4; have Hx4 := Lib.hid ((hk4.block z (lt_heap Hx3.out) zK.out).trans Hx3.out); have y4 : w4.cell? ⟨z, 2, none⟩ = some (.int .i64 k1) := cell_of_row _ _ _ _ _ _ Hx4.out; have Hk4 := Lib.hid hk4; clear ha4 hk4) | (go_at_call 82; refine (bkeep_is (w := w4) (K := K1) (q := q) (p := p) k1 SN1.out.fit T4.out).mono ?_; rintro o w5 ⟨rfl, ha5, hk5⟩; have T5 := Lib.hid ha5; have Hk5 := Lib.hid hk5; clear ha5 hk5) | (go_at_call 81; refine (bfork_walk HF.out T5.out).mono ?_; rintro o w6 ⟨rfl, ha6, hk6⟩; have T6 := Lib.hid ha6; have Hk6 := Lib.hid hk6; clear ha6 hk6))
    all_goals
      go_wp2_with fail
      go_ret
      exact ⟨rfl, T6.out.more hKK.out, (((Kept.of_below Hk3.out K).drew.trans (Hk4.out.mono fun b _ h => hKK.out b h)).trans (Hk5.out.mono fun b _ h => hKK.out b h)).trans (Hk6.out.mono fun b _ h => hKK.out b h)⟩
end
end Go.Proofs.Ytdipgcbppggdhaa
