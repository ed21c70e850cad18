/- A tree of package bits that makes nodes: two made one; a bit less. -/
import Derived.Test.YtdipgcbppggdhaaGpH
import Derived.Test.YtdipgcbppggdhaaBn
namespace Go.Proofs.Ytdipgcbppggdhaa
set_option maxRecDepth 100000
open Go.RowKit

section
variable {q p : Nat}
set_option maxRecDepth 100000 in
set_option maxHeartbeats 8000000 in
theorem bboth_walk {K : Nat → Prop} {w : World} {s s' : Ar} {e e' r x y : Int} (hb : Both s e x y s' e' r) (ha : BTre w K q p s e) :
    Calls Try.prog 84 #[.pointer (some ⟨q, 0, none⟩), .int .i64 x, .int .i64 y] w fun o w' => o = .returned (.int .i64 r) ∧ BTre w' K q p s' e' ∧ Kept K w w' := by
  have g1 := ha.c1
  cases hb with
  | err e0 sn =>
    have T0 := Lib.hid ha
    have K0 := Lib.hid (Kept.refl K w)
    have ge : (e == 0) = false := by simpa using e0
    have SN := Lib.hid sn
    clear e0 sn
    clear ha
    go_enter Try.func84, Try.ntmps84
    go_wp2_with fail
    refine ((bdrop2 (x := x) (y := y) SN.out T0.out)).mono ?_
    rintro o w1 ⟨rfl, t, k⟩
    have T1 := Lib.hid t
    have K1 := Lib.hid (K0.out.trans k)
    clear t k T0 K0
    go_wp2_with fail
    go_ret
    exact ⟨rfl, T1.out, K1.out⟩
  | @left _ _ _ v e0 sn x0 y0 hv sv hp =>
    have T0 := Lib.hid ha
    have K0 := Lib.hid (Kept.refl K w)
    subst e0
    have h_sn := Lib.hid sn
    have h_hv := Lib.hid hv
    have h_sv := Lib.hid sv
    have h_hp := Lib.hid hp
    clear sn hv sv hp
    have gx : (x == 0) = false := by simpa using x0
    have gy : (y == 0) = false := by simpa using y0
    clear x0 y0
    clear ha
    go_enter Try.func84, Try.ntmps84
    go_wp2_with fail
    refine ((show Calls Try.prog 97 #[.pointer (some ⟨q, 0, none⟩), .int .i64 x] _ fun r w' => r = .returned (.bool true) ∧ BTre w' K q p s 0 ∧ Below _ _ w' from by rw [← h_sv.out]; exact bsmall_is h_sn.out h_hv.out T0.out)).mono ?_
    rintro o w1 ⟨rfl, t, k⟩
    have T1 := Lib.hid t
    have K1 := Lib.hid (K0.out.trans (Kept.of_below k K))
    clear t k T0 K0
    go_wp2_with fail
    refine ((bpour_call h_hp.out K _ T1.out)).mono ?_
    rintro o w2 ⟨rfl, t, k⟩
    have T2 := Lib.hid t
    have K2 := Lib.hid (K1.out.trans k)
    clear t k T1 K1
    go_wp2_with fail
    go_ret
    exact ⟨rfl, T2.out, K2.out⟩
  | @right _ _ _ v v' e0 sn x0 y0 hv sv hv' sv' hp =>
    have T0 := Lib.hid ha
    have K0 := Lib.hid (Kept.refl K w)
    subst e0
    have h_sn := Lib.hid sn
    have h_hv := Lib.hid hv
    have h_sv := Lib.hid sv
    have h_hv' := Lib.hid hv'
    have h_sv' := Lib.hid sv'
    have h_hp := Lib.hid hp
    clear sn hv sv hv' sv' hp
    have gx : (x == 0) = false := by simpa using x0
    have gy : (y == 0) = false := by simpa using y0
    clear x0 y0
    clear ha
    go_enter Try.func84, Try.ntmps84
    go_wp2_with fail
    refine ((show Calls Try.prog 97 #[.pointer (some ⟨q, 0, none⟩), .int .i64 x] _ fun r w' => r = .returned (.bool false) ∧ BTre w' K q p s 0 ∧ Below _ _ w' from by rw [← h_sv.out]; exact bsmall_is h_sn.out h_hv.out T0.out)).mono ?_
    rintro o w1 ⟨rfl, t, k⟩
    have T1 := Lib.hid t
    have K1 := Lib.hid (K0.out.trans (Kept.of_below k K))
    clear t k T0 K0
    go_wp2_with fail
    refine ((show Calls Try.prog 97 #[.pointer (some ⟨q, 0, none⟩), .int .i64 y] _ fun r w' => r = .returned (.bool true) ∧ BTre w' K q p s 0 ∧ Below _ _ w' from by rw [← h_sv'.out]; exact bsmall_is h_sn.out h_hv'.out T1.out)).mono ?_
    rintro o w2 ⟨rfl, t, k⟩
    have T2 := Lib.hid t
    have K2 := Lib.hid (K1.out.trans (Kept.of_below k K))
    clear t k T1 K1
    go_wp2_with fail
    refine ((bpour_call h_hp.out K _ T2.out)).mono ?_
    rintro o w3 ⟨rfl, t, k⟩
    have T3 := Lib.hid t
    have K3 := Lib.hid (K2.out.trans k)
    clear t k T2 K2
    go_wp2_with fail
    go_ret
    exact ⟨rfl, T3.out, K3.out⟩
  | @fork _ _ _ v v' e0 sn x0 y0 hv sv hv' sv' hp =>
    have T0 := Lib.hid ha
    have K0 := Lib.hid (Kept.refl K w)
    subst e0
    have h_sn := Lib.hid sn
    have h_hv := Lib.hid hv
    have h_sv := Lib.hid sv
    have h_hv' := Lib.hid hv'
    have h_sv' := Lib.hid sv'
    have h_hp := Lib.hid hp
    clear sn hv sv hv' sv' hp
    have gx : (x == 0) = false := by simpa using x0
    have gy : (y == 0) = false := by simpa using y0
    clear x0 y0
    clear ha
    go_enter Try.func84, Try.ntmps84
    go_wp2_with fail
    refine ((show Calls Try.prog 97 #[.pointer (some ⟨q, 0, none⟩), .int .i64 x] _ fun r w' => r = .returned (.bool false) ∧ BTre w' K q p s 0 ∧ Below _ _ w' from by rw [← h_sv.out]; exact bsmall_is h_sn.out h_hv.out T0.out)).mono ?_
    rintro o w1 ⟨rfl, t, k⟩
    have T1 := Lib.hid t
    have K1 := Lib.hid (K0.out.trans (Kept.of_below k K))
    clear t k T0 K0
    go_wp2_with fail
    refine ((show Calls Try.prog 97 #[.pointer (some ⟨q, 0, none⟩), .int .i64 y] _ fun r w' => r = .returned (.bool false) ∧ BTre w' K q p s 0 ∧ Below _ _ w' from by rw [← h_sv'.out]; exact bsmall_is h_sn.out h_hv'.out T1.out)).mono ?_
    rintro o w2 ⟨rfl, t, k⟩
    have T2 := Lib.hid t
    have K2 := Lib.hid (K1.out.trans (Kept.of_below k K))
    clear t k T1 K1
    go_wp2_with fail
    refine ((bfork_walk h_hp.out T2.out)).mono ?_
    rintro o w3 ⟨rfl, t, k⟩
    have T3 := Lib.hid t
    have K3 := Lib.hid (K2.out.trans k)
    clear t k T2 K2
    go_wp2_with fail
    go_ret
    exact ⟨rfl, T3.out, K3.out⟩
set_option maxRecDepth 100000 in
set_option maxHeartbeats 16000000 in
theorem bcut_call {s s' : Ar} {e e' h r : Int} {i : Nat} (hw : Cut s e h i s' e' r) : ∀ (K : Nat → Prop) (w : World), BTre w K q p s e →
    Calls Try.prog 63 #[.pointer (some ⟨q, 0, none⟩), .int .i64 h, .int .i64 i] w fun o w' => o = .returned (.int .i64 r) ∧ BTre w' K q p s' e' ∧ Kept K w w' := by
  induction hw with
  | @last s e h i l hv hi hl1 sn =>
    intro K w ha
    have c0 := ha.c0
    have H := Lib.hid (row_leaf hv ha.ars sn.fit)
    have hl64 := hv.2.2
    have Ha := Lib.hid ha
    have HB := fun w => Lib.hid (bbits_is l w hl64)
    have hl6 : (l.length : Int) ≤ 64 := by omega
    have HD := fun w => Lib.hid (ldel_is l i w hl64 hi)
    have hdl : (bDel l i).length = 0 := by have := bDel_len hi; omega
    rw [hdl] at HD
    have hi6 : (i : Int) ≤ 64 := by omega
    have HL1 := Lib.hid hl1
    clear hi hl64 sn hdl hl1
    generalize (bN (bDel l i) : Int) = V at *
    clear ha hv
    go_enter Try.func63, Try.ntmps63
    go_wp2_with fail
    refine H.out.mono ?_
    rintro o w1 ⟨rfl, ha1, hk1⟩
    have B1 := Lib.hid (hk1.alloc hk1.size (.cells #[.int .i64 1, .int .i64 0, .int .i64 0, .int .i64 0, .int .i64 0, .int .u64 (bN l), .int .u64 l.length] 47))
    clear ha1 hk1 H
    go_wp2_with fail
    refine (HB _).out.mono ?_
    rintro o w2 ⟨rfl, hk2⟩
    have B2 := Lib.hid (B1.out.trans (hk2.mono B1.out.size))
    clear hk2 B1 HB
    go_wp2_with fail
    refine (HD _).out.mono ?_
    rintro o w3 ⟨rfl, hk3⟩
    have B3 := Lib.hid (((B2.out.trans (hk3.mono B2.out.size))).alloc (Nat.le_trans B2.out.size hk3.size) (.cells #[.int .u64 V, .int .i64 0] 71))
    clear hk3 B2
    go_wp2_with fail
    go_ret
    exact ⟨rfl, Ha.out.below B3.out, Kept.of_below B3.out K⟩
  | @leaf s s' e e' h r i l hv hi hl1 hl =>
    intro K w ha
    have c0 := ha.c0
    have H := Lib.hid (row_leaf hv ha.ars hl.snd.fit)
    have hl64 := hv.2.2
    have Ha := Lib.hid ha
    have HB := fun w => Lib.hid (bbits_is l w hl64)
    have hl6 : (l.length : Int) ≤ 64 := by omega
    have HD := fun w => Lib.hid (ldel_is l i w hl64 hi)
    have hd1 := bDel_len hi
    have HLf := fun w ha => Lib.hid (bleaf_is (w := w) (K := K) (q := q) (p := p) hl ha)
    have hi6 : (i : Int) ≤ 64 := by omega
    have ge : (((bDel l i).length : Int) == 0) = false := beq_eq_false_iff_ne.2 (by omega)
    have Hl1 := Lib.hid hl1
    clear hl hi hl64 hd1 hl1
    generalize (bDel l i).length = n at *
    generalize (bN (bDel l i) : Int) = V at *
    clear ha hv
    go_enter Try.func63, Try.ntmps63
    go_wp2_with fail
    refine H.out.mono ?_
    rintro o w1 ⟨rfl, ha1, hk1⟩
    have B1 := Lib.hid (hk1.alloc hk1.size (.cells #[.int .i64 1, .int .i64 0, .int .i64 0, .int .i64 0, .int .i64 0, .int .u64 (bN l), .int .u64 l.length] 47))
    clear ha1 hk1 H
    go_wp2_with fail
    refine (HB _).out.mono ?_
    rintro o w2 ⟨rfl, hk2⟩
    have B2 := Lib.hid (B1.out.trans (hk2.mono B1.out.size))
    clear hk2 B1 HB
    go_wp2_with fail
    refine (HD _).out.mono ?_
    rintro o w3 ⟨rfl, hk3⟩
    have B3 := Lib.hid (((B2.out.trans (hk3.mono B2.out.size))).alloc (Nat.le_trans B2.out.size hk3.size) (.cells #[.int .u64 V, .int .i64 n] 71))
    clear hk3 B2
    go_wp2_with fail
    refine (HLf _ (Ha.out.below B3.out)).out.mono ?_
    rintro o w4 ⟨rfl, h4, k4⟩
    go_wp2_with fail
    go_ret
    exact ⟨rfl, h4, (Kept.of_below B3.out K).trans k4⟩
  | @right s s2 s' e e2 e' h k0 k1 x r i m o v hv sn hi hv0 hil _ hf ih =>
    intro K w ha
    have c0 := ha.c0
    have H := Lib.hid (row_fork hv ha.ars sn.fit)
    have Ha := Lib.hid ha
    have SN := Lib.hid sn
    have HV0 := Lib.hid hv0
    have hlen : v.len ≤ 1000000 := hv0.big.1
    have hgl : (v.len : Int) ≤ (i : Int) := by omega
    have hi6 : (i : Int) ≤ 1000000 := by omega
    have hwr : IntKind.i64.wrap ((i : Int) - (v.len : Int)) = ((i - v.len : Nat) : Int) := by rw [bwrap_small (by omega) (by omega)]; omega
    have IH := Lib.hid ih
    have HF := Lib.hid hf
    clear ih hf hi
    clear ha hv sn hv0
    go_enter Try.func63, Try.ntmps63
    go_wp2_with fail
    refine H.out.mono ?_
    clear H
    rintro e w1 ⟨rfl, ha, hk⟩
    go_wp2_with fail
    have HB := Lib.hid (hk.alloc hk.size (.cells #[.int .i64 2, .int .i64 k0, .int .i64 k1, .int .i64 0, .int .i64 0, .int .u64 m, .int .u64 o] 47))
    have hx := heap_alloc_new w1 (.cells #[.int .i64 2, .int .i64 k0, .int .i64 k1, .int .i64 0, .int .i64 0, .int .u64 m, .int .u64 o] 47)
    have hzw : w.heap.size ≤ w1.heap.size := hk.size
    generalize w1.alloc (.cells #[.int .i64 2, .int .i64 k0, .int .i64 k1, .int .i64 0, .int .i64 0, .int .u64 m, .int .u64 o] 47) = w2 at *
    generalize w1.heap.size = z at *
    obtain ⟨K1, hK1⟩ : ∃ K1 : Nat → Prop, K1 = fun b => K b ∨ b = z := ⟨_, rfl⟩
    have HA : Hid (BTre w2 K1 q p s e) := Ha.out.newK HB.out fun b hb => by
      rw [hK1] at hb
      rcases hb with hb | rfl
      · exact ⟨Nat.lt_of_lt_of_le (Ha.out.ars.lt b (.inl hb)) HB.out.size, .inl hb⟩
      · exact ⟨lt_heap hx, .inr hzw⟩
    have zK := Lib.hid (show K1 z by rw [hK1]; exact .inr rfl)
    have hKK := Lib.hid (show ∀ b, K b → K1 b from fun b hb => by rw [hK1]; exact .inl hb)
    clear hK1
    have HL := fun W (ha : Ars W (fun b => K1 b ∨ b = q) p s) => Lib.hid (blen_is HV0.out ha SN.out.fit)
    have c0 := HA.out.c0
    have y1 : w2.cell? ⟨z, 1, none⟩ = some (.int .i64 k0) := cell_of_row _ _ _ _ _ _ hx
    have Hx := Lib.hid hx
    clear hx ha hk
    go_upto_region 7 with fail
    go_cut [11] (fun a W => a = .int .i64 v.len ∧ BDown K1 q p s e z k0 k1 m o w W)
    case first =>
      go_region_with (go_at_call 34; refine (HL _ HA.out.drew.ars).out.mono ?_; rintro o w3 ⟨rfl, ha3, hk3⟩; have D3 := Lib.hid (show BDown K1 q p s e z k0 k1 _ _ w w3 from ⟨HA.out.drew.below hk3, (hk3.block z (lt_heap Hx.out)).trans Hx.out, HB.out.drew.trans (hk3.mono HB.out.size)⟩); clear ha3 hk3)
      all_goals
        go_wp2_with fail
        go_meet
        case rel => exact ⟨rfl, D3.out⟩
    case rest =>
    obtain ⟨rfl, hd⟩ := hcut
    clear HL HA c0 y1 Hx HB
    obtain ⟨w3, rfl⟩ : ∃ w3 : World, w3 = wc := ⟨_, rfl⟩
    have T3 := Lib.hid hd.tre
    have Hx3 := Lib.hid hd.box
    have Hk3 := Lib.hid hd.below
    clear hd
    have y31 : w3.cell? ⟨z, 1, none⟩ = some (.int .i64 k0) := cell_of_row _ _ _ _ _ _ Hx3.out
    have y32 : w3.cell? ⟨z, 2, none⟩ = some (.int .i64 k1) := cell_of_row _ _ _ _ _ _ Hx3.out
    go_wp2_with fail
    go_region_with (first | (go_at_call 82; refine (bkeep_is (w := w3.drew) (K := K1) (q := q) (p := p) (s := s) (e := e) k0 SN.out.fit T3.out.drew).mono ?_; rintro o w4 ⟨rfl, ha4, hk4⟩; have T4 := Lib.hid ha4; have Hx4 := Lib.hid ((hk4.block z (lt_heap Hx3.out) zK.out).trans Hx3.out); have y4 : w4.cell? ⟨z, 2, none⟩ = some (.int .i64 k1) := cell_of_row _ _ _ _ _ _ Hx4.out; have Hk4 := Lib.hid hk4; clear ha4 hk4) | (go_at_call 63; refine (IH.out K1 w4 T4.out).mono ?_; rintro o w5 ⟨rfl, ha5, hk5⟩; have T5 := Lib.hid ha5; have Hk5 := Lib.hid hk5; clear ha5 hk5) | (go_at_call 84; refine (bboth_walk HF.out T5.out).mono ?_; rintro o w6 ⟨rfl, ha6, hk6⟩; have T6 := Lib.hid ha6; have Hk6 := Lib.hid hk6; clear ha6 hk6))
    all_goals
      go_wp2_with fail
      go_ret
      exact ⟨rfl, T6.out.more hKK.out, (((Kept.of_below Hk3.out K).drew.trans (Hk4.out.mono fun b _ h => hKK.out b h)).trans (Hk5.out.mono fun b _ h => hKK.out b h)).trans (Hk6.out.mono fun b _ h => hKK.out b h)⟩
  | @left s s1 s' e e1 e' h k0 k1 x r i m o v hv sn hi hv0 hil _ sn1 hf ih =>
    intro K w ha
    have c0 := ha.c0
    have H := Lib.hid (row_fork hv ha.ars sn.fit)
    have Ha := Lib.hid ha
    have SN := Lib.hid sn
    have HV0 := Lib.hid hv0
    have hlen : v.len ≤ 1000000 := hv0.big.1
    have hgl : (i : Int) < (v.len : Int) := by omega
    have IH := Lib.hid ih
    have HF := Lib.hid hf
    have SN1 := Lib.hid sn1
    clear ih hf hi sn1
    clear ha hv sn hv0
    go_enter Try.func63, Try.ntmps63
    go_wp2_with fail
    refine H.out.mono ?_
    clear H
    rintro e w1 ⟨rfl, ha, hk⟩
    go_wp2_with fail
    have HB := Lib.hid (hk.alloc hk.size (.cells #[.int .i64 2, .int .i64 k0, .int .i64 k1, .int .i64 0, .int .i64 0, .int .u64 m, .int .u64 o] 47))
    have hx := heap_alloc_new w1 (.cells #[.int .i64 2, .int .i64 k0, .int .i64 k1, .int .i64 0, .int .i64 0, .int .u64 m, .int .u64 o] 47)
    have hzw : w.heap.size ≤ w1.heap.size := hk.size
    generalize w1.alloc (.cells #[.int .i64 2, .int .i64 k0, .int .i64 k1, .int .i64 0, .int .i64 0, .int .u64 m, .int .u64 o] 47) = w2 at *
    generalize w1.heap.size = z at *
    obtain ⟨K1, hK1⟩ : ∃ K1 : Nat → Prop, K1 = fun b => K b ∨ b = z := ⟨_, rfl⟩
    have HA : Hid (BTre w2 K1 q p s e) := Ha.out.newK HB.out fun b hb => by
      rw [hK1] at hb
      rcases hb with hb | rfl
      · exact ⟨Nat.lt_of_lt_of_le (Ha.out.ars.lt b (.inl hb)) HB.out.size, .inl hb⟩
      · exact ⟨lt_heap hx, .inr hzw⟩
    have zK := Lib.hid (show K1 z by rw [hK1]; exact .inr rfl)
    have hKK := Lib.hid (show ∀ b, K b → K1 b from fun b hb => by rw [hK1]; exact .inl hb)
    clear hK1
    have HL := fun W (ha : Ars W (fun b => K1 b ∨ b = q) p s) => Lib.hid (blen_is HV0.out ha SN.out.fit)
    have c0 := HA.out.c0
    have y1 : w2.cell? ⟨z, 1, none⟩ = some (.int .i64 k0) := cell_of_row _ _ _ _ _ _ hx
    have Hx := Lib.hid hx
    clear hx ha hk
    go_upto_region 7 with fail
    go_cut [11] (fun a W => a = .int .i64 v.len ∧ BDown K1 q p s e z k0 k1 m o w W)
    case first =>
      go_region_with (go_at_call 34; refine (HL _ HA.out.drew.ars).out.mono ?_; rintro o w3 ⟨rfl, ha3, hk3⟩; have D3 := Lib.hid (show BDown K1 q p s e z k0 k1 _ _ w w3 from ⟨HA.out.drew.below hk3, (hk3.block z (lt_heap Hx.out)).trans Hx.out, HB.out.drew.trans (hk3.mono HB.out.size)⟩); clear ha3 hk3)
      all_goals
        go_wp2_with fail
        go_meet
        case rel => exact ⟨rfl, D3.out⟩
    case rest =>
    obtain ⟨rfl, hd⟩ := hcut
    clear HL HA c0 y1 Hx HB
    obtain ⟨w3, rfl⟩ : ∃ w3 : World, w3 = wc := ⟨_, rfl⟩
    have T3 := Lib.hid hd.tre
    have Hx3 := Lib.hid hd.box
    have Hk3 := Lib.hid hd.below
    clear hd
    have y31 : w3.cell? ⟨z, 1, none⟩ = some (.int .i64 k0) := cell_of_row _ _ _ _ _ _ Hx3.out
    have y32 : w3.cell? ⟨z, 2, none⟩ = some (.int .i64 k1) := cell_of_row _ _ _ _ _ _ Hx3.out
    go_wp2_with fail
    go_region_with (first | (go_at_call 63; refine (IH.out K1 _ T3.out.drew).mono ?_; rintro o w4 ⟨rfl, ha4, hk4⟩; have T4 := Lib.hid ha4; have Hx4 := Lib.hid ((hk4.block z (lt_heap Hx3.out) zK.out).trans Hx3.out); have y4 : w4.cell? ⟨z, 2, none⟩ = some (.int .i64 k1) := cell_of_row _ _ _ _ _ _ Hx4.out; have Hk4 := Lib.hid hk4; clear ha4 hk4) | (go_at_call 82; refine (bkeep_is (w := w4) (K := K1) (q := q) (p := p) k1 SN1.out.fit T4.out).mono ?_; rintro o w5 ⟨rfl, ha5, hk5⟩; have T5 := Lib.hid ha5; have Hk5 := Lib.hid hk5; clear ha5 hk5) | (go_at_call 84; refine (bboth_walk HF.out T5.out).mono ?_; rintro o w6 ⟨rfl, ha6, hk6⟩; have T6 := Lib.hid ha6; have Hk6 := Lib.hid hk6; clear ha6 hk6))
    all_goals
      go_wp2_with fail
      go_ret
      exact ⟨rfl, T6.out.more hKK.out, (((Kept.of_below Hk3.out K).drew.trans (Hk4.out.mono fun b _ h => hKK.out b h)).trans (Hk5.out.mono fun b _ h => hKK.out b h)).trans (Hk6.out.mono fun b _ h => hKK.out b h)⟩
end
section
variable {K : Nat → Prop} {q p : Nat} {s s' : Ar} {e e' r h : Int} {w : World}
set_option maxHeartbeats 2000000 in
theorem bDelete_walk {i : Nat} {v : View} (H : Cut s 0 h i s' e' r) (hz : e' ≠ 0 → r = 0) (hv : Vw s h v) (hi : i < v.len) (sn : Snd s) (ha : Ars w K p s) :
    Calls Try.prog 53 #[.pointer (some ⟨p, 0, none⟩), .int .i64 h, .int .i64 i] w fun o w' => o = .returned (.tuple #[.int .i64 r, .int .i64 e']) ∧ Ars w' K p s' ∧ Kept K w w' := by
  have HL := Lib.hid (blen_is hv ha sn.fit)
  have hb := hv.big.1
  have HI := fun q w ha => Lib.hid (bcut_call (q := q) (p := p) H K w ha)
  have HT := fun q w ha => Lib.hid (btold_is (w := w) (K := K) (q := q) (p := p) (s := s') hz ha)
  have hi1 : (i : Int) < (v.len : Int) := by omega
  have hi2 : (v.len : Int) ≤ 1000000 := by omega
  clear H hz hv hi sn ha hb
  generalize v.len = n at *
  go_enter Try.func53, Try.ntmps53
  go_wp2_with fail
  refine HL.out.mono ?_
  rintro o w1 ⟨rfl, ha1, hk1⟩
  have T1 := Lib.hid (btree_new ha1)
  have K1 := Lib.hid ((Kept.of_below hk1 K).alloc (.cells #[.pointer (some ⟨p, 0, none⟩), .int .i64 0] 84))
  clear ha1 hk1 HL
  go_wp2_with fail
  refine (HI _ _ T1.out).out.mono ?_
  rintro o w2 ⟨rfl, h2, k2⟩
  have T2 := Lib.hid h2
  have K2 := Lib.hid (K1.out.trans k2)
  clear h2 k2
  go_wp2_with fail
  refine (HT _ _ T2.out).out.mono ?_
  rintro o w3 ⟨rfl, h3, k3⟩
  go_wp2_with fail
  go_ret2
  exact ⟨rfl, btree_end h3, K2.out.trans k3⟩
end
end Go.Proofs.Ytdipgcbppggdhaa
