/- Package wave: how often a symbol is among the first ones. -/
import Derived.Test.YtdipgcbppggdhaaWp
import Derived.Test.YtdipgcbppggdhaaWv7
namespace Go.Proofs.Ytdipgcbppggdhaa
set_option maxRecDepth 100000
open Go.RowKit
section
variable {K : Nat → Prop} {p : Nat} {s : Ar} {L : List Int} {w : World} {h : Int}
set_option maxHeartbeats 8000000 in
theorem alike_less {xs : List Bool} {i : Int} (one : Bool) (g : Gd s L) (sn : Snd s) (r : FRow s L h xs) (hx : xs.length ≤ 1000000) (hi : i < 0) (ha : Ars w K p s) :
    Calls Try.prog 31 #[.pointer (some ⟨p, 0, none⟩), .int .i64 h, .int .i64 i, .bool one] w fun e w' => e = .returned (.int .i64 ((xs.take 0).count one : Nat)) ∧ Below w.heap.size w w' := by
  have HL := flen_row g sn r ha
  have A0 := Lib.hid ha
  have HR := fun W (ha : Ars W K p s) => Lib.hid (show Calls Try.prog 44 #[.pointer (some ⟨p, 0, none⟩), .int .i64 h, .int .i64 0] W fun e w' => e = .returned (.int .i64 0) ∧ Below W.heap.size W w' from frank_row (i := 0) g sn r ha (Nat.zero_le _))
  obtain ⟨n, hn⟩ : ∃ n, n = xs.length := ⟨_, rfl⟩
  rw [← hn] at HL hx
  have hf : Hid (((((xs.take 0).count one : Nat) : Int)) = 0) := by show (((xs.take 0).count one : Nat) : Int) = 0; simp
  rw [hf.out]
  have hnI : (n : Int) ≤ 1000000 := by omega
  have hmx : max i 0 = 0 := by omega
  have hmn : min 0 (n : Int) = 0 := by omega
  replace HL := Lib.hid HL
  clear hn g sn r ha hx hf
  cases one
  · skip
    go_enter Try.func31, Try.ntmps31
    go_wp2_with fail
    refine HL.out.mono ?_
    rintro e w1 ⟨rfl, hb⟩
    have A1 := Lib.hid (A0.out.below hb)
    have B1 := Lib.hid hb
    clear hb HL A0
    go_wp2_with fail
    refine (HR _ A1.out).out.mono ?_
    rintro e w2 ⟨rfl, hb⟩
    go_wp2_with fail
    go_ret
    exact ⟨by first | rfl | (rw [hf.out]; rfl), B1.out.trans (hb.mono B1.out.size)⟩
  · skip
    go_enter Try.func31, Try.ntmps31
    go_wp2_with fail
    refine HL.out.mono ?_
    rintro e w1 ⟨rfl, hb⟩
    have A1 := Lib.hid (A0.out.below hb)
    have B1 := Lib.hid hb
    clear hb HL A0
    go_wp2_with fail
    refine (HR _ A1.out).out.mono ?_
    rintro e w2 ⟨rfl, hb⟩
    go_wp2_with fail
    go_ret
    exact ⟨by first | rfl | (rw [hf.out]; rfl), B1.out.trans (hb.mono B1.out.size)⟩
set_option maxHeartbeats 8000000 in
theorem alike_more {xs : List Bool} {i : Int} (one : Bool) (g : Gd s L) (sn : Snd s) (r : FRow s L h xs) (hx : xs.length ≤ 1000000) (hi : (xs.length : Int) < i) (ha : Ars w K p s) :
    Calls Try.prog 31 #[.pointer (some ⟨p, 0, none⟩), .int .i64 h, .int .i64 i, .bool one] w fun e w' => e = .returned (.int .i64 ((xs.take xs.length).count one : Nat)) ∧ Below w.heap.size w w' := by
  have HL := flen_row g sn r ha
  have A0 := Lib.hid ha
  have HR := fun W (ha : Ars W K p s) => Lib.hid (frank_row (i := xs.length) g sn r ha (Nat.le_refl _))
  have hcl : (xs.take xs.length).count true ≤ xs.length := by
    have := List.count_le_length (a := true) (l := xs.take xs.length)
    rw [List.length_take] at this
    omega
  have hcf : (xs.take xs.length).count false + (xs.take xs.length).count true = xs.length := by
    rw [count_not, List.length_take]
    omega
  obtain ⟨n, hn⟩ : ∃ n, n = xs.length := ⟨_, rfl⟩
  rw [← hn] at HL hx hi hcl hcf HR ⊢
  obtain ⟨c, hc⟩ : ∃ c, c = (xs.take n).count true := ⟨_, rfl⟩
  obtain ⟨d, hd⟩ : ∃ d, d = (xs.take n).count false := ⟨_, rfl⟩
  rw [← hc, ← hd] at hcf
  rw [← hc] at hcl
  rw [← hc] at HR
  have HC := Lib.hid hc
  have HD := Lib.hid hd
  have hcI : (c : Int) ≤ (n : Int) := by omega
  have hnI : (n : Int) ≤ 1000000 := by omega
  have hf : Hid ((((xs.take n).count false : Nat) : Int) = (n : Int) - (c : Int)) := by show (((xs.take n).count false : Nat) : Int) = (n : Int) - (c : Int); rw [← HD.out]; omega
  have ht : Hid ((((xs.take n).count true : Nat) : Int) = (c : Int)) := by show (((xs.take n).count true : Nat) : Int) = (c : Int); rw [← HC.out]
  replace HL := Lib.hid HL
  have i0 : 0 < i := by omega
  have hmx : max i 0 = i := by omega
  have hmn : min i (n : Int) = (n : Int) := by omega
  have hni : ¬ (i ≤ (n : Int)) := by omega
  clear hn hc hd hcl hcf g sn r ha hx
  cases one
  · skip
    go_enter Try.func31, Try.ntmps31
    go_wp2_with fail
    refine HL.out.mono ?_
    rintro e w1 ⟨rfl, hb⟩
    have A1 := Lib.hid (A0.out.below hb)
    have B1 := Lib.hid hb
    clear hb HL A0
    go_wp2_with fail
    refine (HR _ A1.out).out.mono ?_
    rintro e w2 ⟨rfl, hb⟩
    go_wp2_with fail
    go_ret
    exact ⟨by first | rfl | (rw [hf.out]; rfl), B1.out.trans (hb.mono B1.out.size)⟩
  · skip
    rw [ht.out]
    go_enter Try.func31, Try.ntmps31
    go_wp2_with fail
    refine HL.out.mono ?_
    rintro e w1 ⟨rfl, hb⟩
    have A1 := Lib.hid (A0.out.below hb)
    have B1 := Lib.hid hb
    clear hb HL A0
    go_wp2_with fail
    refine (HR _ A1.out).out.mono ?_
    rintro e w2 ⟨rfl, hb⟩
    go_wp2_with fail
    go_ret
    exact ⟨by first | rfl | (rw [hf.out]; rfl), B1.out.trans (hb.mono B1.out.size)⟩
/-- Any place: how many of the first bits are alike. -/
theorem alike_any {xs : List Bool} {i : Int} {c : Nat} (one : Bool) (g : Gd s L) (sn : Snd s) (r : FRow s L h xs) (hx : xs.length ≤ 1000000) (hc : (c : Int) = min (max i 0) xs.length) (ha : Ars w K p s) :
    Calls Try.prog 31 #[.pointer (some ⟨p, 0, none⟩), .int .i64 h, .int .i64 i, .bool one] w fun e w' => e = .returned (.int .i64 ((xs.take c).count one : Nat)) ∧ Below w.heap.size w w' := by
  rcases Int.lt_or_le i 0 with h0 | h0
  · have c0 : c = 0 := by omega
    subst c0
    exact alike_less one g sn r hx h0 ha
  · rcases Int.lt_or_le (xs.length : Int) i with h1 | h1
    · have c0 : c = xs.length := by omega
      subst c0
      exact alike_more one g sn r hx h1 ha
    · obtain ⟨j, rfl⟩ := Int.eq_ofNat_of_zero_le h0
      have c0 : c = j := by omega
      subst c0
      exact alike_in (i := c) one g sn r hx (by omega) ha
set_option maxHeartbeats 1000000 in
theorem wis_is (v : Nat) (hv : v < 257) (w : World) : Calls Try.prog 28 #[.int .i64 v] w fun e w' => e = .returned (.bool true) ∧ w = w' := by
  have h1 : (v : Int) < 257 := by omega
  clear hv
  go_enter Try.func28, Try.ntmps28
  go_wp2_with fail
  go_ret
  exact ⟨rfl, rfl⟩
set_option maxHeartbeats 1000000 in
theorem wis_no (v : Int) (hv : v < 0 ∨ 257 ≤ v) (w : World) : Calls Try.prog 28 #[.int .i64 v] w fun e w' => e = .returned (.bool false) ∧ w = w' := by
  rcases hv with h | h
  · go_enter Try.func28, Try.ntmps28
    go_wp2_with fail
    go_ret
    exact ⟨rfl, rfl⟩
  · have h2 : 0 ≤ v := by omega
    have h3 : decide (v < 257) = false := by simp; omega
    go_enter Try.func28, Try.ntmps28
    go_wp2_with fail
    go_ret
    exact ⟨rfl, rfl⟩
end
/-- One level below: how many are alike, and the place. -/
theorem wrank_step {k v c : Nat} {ys : List Nat} {one : Bool} (ho : wb k v = one) : ∃ m : Nat, m = ((ys.map (wb k)).take c).count one ∧ m ≤ (ys.filter fun y => wb k y == one).length ∧ wrank (k + 1) v ys c = wrank k v (ys.filter fun y => wb k y == one) m := by
  subst ho
  exact ⟨_, rfl, at_le, wrank_up k v ys c⟩
def WRankJ (K : Nat → Prop) (p : Nat) (s : Ar) (L : List Int) (w : World) (v R : Nat) (k : Nat) (a : Act) (W : World) : Prop :=
  ∃ (h i lv : Int) (c : Nat) (ys : List Nat) (x : Nd) (u4 u5 u6 u7 u10 u11 u12 u13 u14 u15 u16 u17 u18 u19 u20 u21 u22 u23 u24 u25 u26 u27 u28 u29 u30 u31 u32 u33 u34 u35 u36 u37 u38 u39 u40 u41 u42 u43 : Value), a = { tmps := #[.pointer (some ⟨p, 0, none⟩), .int .i64 h, .int .i64 (v : Int), .int .i64 i, u4, u5, u6, u7, .int .i64 0, .int .i64 lv, u10, u11, u12, u13, u14, u15, u16, u17, u18, u19, u20, u21, u22, u23, u24, u25, u26, u27, u28, u29, u30, u31, u32, u33, u34, u35, u36, u37, u38, u39, u40, u41, u42, u43], defers := [] } ∧ lv = 8 - (k : Int) ∧ k ≤ 8 ∧ Ars W K p s ∧ Below w.heap.size w W ∧ WNode s L k h ys x ∧ (c : Int) = min (max i 0) (ys.length : Int) ∧ ys.length ≤ 5000 ∧ wrank (k + 1) v ys c = R
section
variable {K : Nat → Prop} {p : Nat} {s : Ar} {L : List Int} {w : World} {h : Int} {xs : List Nat}
set_option maxRecDepth 100000 in
set_option maxHeartbeats 16000000 in
theorem wrank_is {i : Int} {c v : Nat} {x : Nd} (g : Gd s L) (sn : Snd s) (hz : (0 : Int) ∈ L) (N0 : WNode s L 8 h xs x) (hx : xs.length ≤ 5000) (hv : v < 257) (hc : (c : Int) = min (max i 0) (xs.length : Int)) (ha : Ars w K p s) :
    Calls Try.prog 13 #[.pointer (some ⟨p, 0, none⟩), .int .i64 h, .int .i64 v, .int .i64 i] w fun e w' => e = .returned (.int .i64 (wrank 9 v xs c : Nat)) ∧ Below w.heap.size w w' := by
  obtain ⟨R, hRe⟩ : ∃ R, R = wrank 9 v xs c := ⟨_, rfl⟩
  rw [← hRe]
  have J0 := Lib.hid (show Ars w K p s ∧ Below w.heap.size w w ∧ WNode s L 8 h xs x ∧ (c : Int) = min (max i 0) (xs.length : Int) ∧ xs.length ≤ 5000 ∧ wrank (8 + 1) v xs c = R from ⟨ha, Below.refl _ _, N0, hc, hx, hRe.symm⟩)
  have G := Lib.hid g
  have SN := Lib.hid sn
  have HZ := Lib.hid hz
  have HV := Lib.hid hv
  have HIs := Lib.hid (wis_is v hv w)
  clear g sn hz N0 hx ha hv hc hRe
  go_enter Try.func13, Try.ntmps13
  go_wp2_with fail
  refine wp_scope_ghost 0 (WRankJ K p s L w v R) rfl ?pass ?first
  case first =>
    intro hp
    go_wp2_with fail
    refine HIs.out.mono ?_
    rintro o w' ⟨rfl, rfl⟩
    go_wp2_with fail
    go_step3
    rename_i K hK
    exact hK _ _ (hp.out 8 _ _ ⟨h, i, _, c, xs, x, _, _, _, _, _, _, _, _, _, _, _, _, _, _, _, _, _, _, _, _, _, _, _, _, _, _, _, _, _, _, _, _, _, _, _, _, _, _, rfl, by omega, by omega, J0.out⟩)
  case pass =>
    clear J0 HIs
    rintro k a' W0 ⟨h, i, lv, c, ys, x, u4, u5, u6, u7, u10, u11, u12, u13, u14, u15, u16, u17, u18, u19, u20, u21, u22, u23, u24, u25, u26, u27, u28, u29, u30, u31, u32, u33, u34, u35, u36, u37, u38, u39, u40, u41, u42, u43, rfl, hlv0, hk8, ha, hb, N, hc, hl, hR⟩
    have HRow := Lib.hid (N.row ha)
    have NN := Lib.hid N
    have Hc := Lib.hid hc
    have HL := Lib.hid hl
    have HLv := Lib.hid hlv0
    have Hlv := Lib.hid (show lv = ((8 - k : Nat) : Int) by omega)
    have Hb := Lib.hid hb
    have yl : (ys.map (wb k)).length = ys.length := List.length_map ..
    have hkI : (k : Int) ≤ 8 := by omega
    obtain ⟨tag, k0, k1, k2, k3, A, B⟩ := x
    clear hb hc hl
    cases hbit : wb k v
    · skip
      obtain ⟨m, hm, hml, hmR⟩ := wrank_step (c := c) (ys := ys) hbit
      rw [hR] at hmR
      have HBit := fun W => Lib.hid (show Calls Try.prog 30 #[.int .i64 (v : Int), .int .i64 lv] W fun e w' => e = .returned (.bool false) ∧ W = w' from by rw [Hlv.out, ← hbit]; exact bit_is k v (by omega) HV.out W)
      have HAl := fun W (ha : Ars W K p s) => Lib.hid (show Calls Try.prog 31 #[.pointer (some ⟨p, 0, none⟩), .int .i64 k0, .int .i64 i, .bool false] W fun e w' => e = .returned (.int .i64 (m : Int)) ∧ Below W.heap.size W w' from by rw [hm]; exact alike_any (i := i) (c := c) false G.out SN.out NN.out.bits (by rw [yl]; have := HL.out; omega) (by rw [yl]; exact Hc.out) ha)
      rw [(bit_eq (wb k) ys).2] at hml hmR
      have HmL := Lib.hid hml
      have HmR := Lib.hid hmR
      have hmI : (m : Int) ≤ 5000 := by have := HL.out; have := List.length_filter_le (fun y => !wb k y) ys; omega
      clear hm hml hmR hR N yl Hc
      cases k with
      | zero =>
        obtain rfl : lv = 8 := by omega
        clear hlv0
        have hRm : (R : Int) = (m : Int) := by rw [HmR.out, wrank_zero HmL.out]
        have HRm := Lib.hid hRm
        clear hRm
        rcases Nat.eq_zero_or_pos m with m0 | m0
        · subst m0
          go_wp2_with fail
          refine HRow.out.mono ?_
          rintro o w1 ⟨⟨b, rfl⟩, ha1, hk1⟩
          have x1 := box7 (heap_alloc_new w1 (.cells #[.int .i64 tag, .int .i64 k0, .int .i64 k1, .int .i64 k2, .int .i64 k3, .int .u64 A, .int .u64 B] 47))
          have A1 := Lib.hid (ha1.alloc (.cells #[.int .i64 tag, .int .i64 k0, .int .i64 k1, .int .i64 k2, .int .i64 k3, .int .u64 A, .int .u64 B] 47))
          have B1a := Hb.out.trans (hk1.mono Hb.out.size)
          have B1 := Lib.hid (B1a.alloc B1a.size (.cells #[.int .i64 tag, .int .i64 k0, .int .i64 k1, .int .i64 k2, .int .i64 k3, .int .u64 A, .int .u64 B] 47))
          have X1 := Lib.hid x1
          obtain ⟨c0, c1, c2, c3, c4, c5, c6⟩ := x1
          clear ha1 hk1 B1a HRow ha
          go_wp2_with fail
          refine (HBit _).out.mono ?_
          rintro o w2 ⟨rfl, rfl⟩
          go_wp2_with fail
          refine (HAl _ A1.out).out.mono ?_
          rintro o w3 ⟨rfl, hb⟩
          have A3 := Lib.hid (A1.out.below hb)
          have B3 := Lib.hid (B1.out.trans (hb.mono B1.out.size))
          have x3 := box7_keep hb X1.out
          clear hb A1 B1 HAl HBit c0 c1 c2 c3 c4 c5 c6 X1
          obtain ⟨c0, c1, c2, c3, c4, c5, c6⟩ := x3
          go_wp2_with fail
          refine (kid_is _ _ _ _ _ _ _ _ _).mono ?_
          rintro o w4 ⟨rfl, hb⟩
          have A4 := Lib.hid (A3.out.below hb)
          have B4 := Lib.hid (B3.out.trans (hb.mono B3.out.size))
          clear hb A3 B3 c0 c1 c2 c3 c4 c5 c6
          go_wp2_with fail
          simp only [Exit.jump]
          go_ret
          exact ⟨by rw [HRm.out]; first | done | rfl, B4.out⟩
        · have m1 : 0 < (m : Int) := by omega
          go_wp2_with fail
          refine HRow.out.mono ?_
          rintro o w1 ⟨⟨b, rfl⟩, ha1, hk1⟩
          have x1 := box7 (heap_alloc_new w1 (.cells #[.int .i64 tag, .int .i64 k0, .int .i64 k1, .int .i64 k2, .int .i64 k3, .int .u64 A, .int .u64 B] 47))
          have A1 := Lib.hid (ha1.alloc (.cells #[.int .i64 tag, .int .i64 k0, .int .i64 k1, .int .i64 k2, .int .i64 k3, .int .u64 A, .int .u64 B] 47))
          have B1a := Hb.out.trans (hk1.mono Hb.out.size)
          have B1 := Lib.hid (B1a.alloc B1a.size (.cells #[.int .i64 tag, .int .i64 k0, .int .i64 k1, .int .i64 k2, .int .i64 k3, .int .u64 A, .int .u64 B] 47))
          have X1 := Lib.hid x1
          obtain ⟨c0, c1, c2, c3, c4, c5, c6⟩ := x1
          clear ha1 hk1 B1a HRow ha
          go_wp2_with fail
          refine (HBit _).out.mono ?_
          rintro o w2 ⟨rfl, rfl⟩
          go_wp2_with fail
          refine (HAl _ A1.out).out.mono ?_
          rintro o w3 ⟨rfl, hb⟩
          have A3 := Lib.hid (A1.out.below hb)
          have B3 := Lib.hid (B1.out.trans (hb.mono B1.out.size))
          have x3 := box7_keep hb X1.out
          clear hb A1 B1 HAl HBit c0 c1 c2 c3 c4 c5 c6 X1
          obtain ⟨c0, c1, c2, c3, c4, c5, c6⟩ := x3
          go_wp2_with fail
          refine (kid_is _ _ _ _ _ _ _ _ _).mono ?_
          rintro o w4 ⟨rfl, hb⟩
          have A4 := Lib.hid (A3.out.below hb)
          have B4 := Lib.hid (B3.out.trans (hb.mono B3.out.size))
          clear hb A3 B3 c0 c1 c2 c3 c4 c5 c6
          go_wp2_with fail
          simp only [Exit.jump]
          go_ret
          exact ⟨by rw [HRm.out]; first | done | rfl, B4.out⟩
      | succ k =>
        have lv1 : lv + 1 < 9 := by omega
        have lv2 : 0 ≤ lv := by omega
        clear hlv0
        rcases Nat.eq_zero_or_pos m with m0 | m0
        · subst m0
          have hRm : (R : Int) = 0 := by rw [HmR.out]; unfold wrank; simp
          have HRm := Lib.hid hRm
          clear hRm
          go_wp2_with fail
          refine HRow.out.mono ?_
          rintro o w1 ⟨⟨b, rfl⟩, ha1, hk1⟩
          have x1 := box7 (heap_alloc_new w1 (.cells #[.int .i64 tag, .int .i64 k0, .int .i64 k1, .int .i64 k2, .int .i64 k3, .int .u64 A, .int .u64 B] 47))
          have A1 := Lib.hid (ha1.alloc (.cells #[.int .i64 tag, .int .i64 k0, .int .i64 k1, .int .i64 k2, .int .i64 k3, .int .u64 A, .int .u64 B] 47))
          have B1a := Hb.out.trans (hk1.mono Hb.out.size)
          have B1 := Lib.hid (B1a.alloc B1a.size (.cells #[.int .i64 tag, .int .i64 k0, .int .i64 k1, .int .i64 k2, .int .i64 k3, .int .u64 A, .int .u64 B] 47))
          have X1 := Lib.hid x1
          obtain ⟨c0, c1, c2, c3, c4, c5, c6⟩ := x1
          clear ha1 hk1 B1a HRow ha
          go_wp2_with fail
          refine (HBit _).out.mono ?_
          rintro o w2 ⟨rfl, rfl⟩
          go_wp2_with fail
          refine (HAl _ A1.out).out.mono ?_
          rintro o w3 ⟨rfl, hb⟩
          have A3 := Lib.hid (A1.out.below hb)
          have B3 := Lib.hid (B1.out.trans (hb.mono B1.out.size))
          have x3 := box7_keep hb X1.out
          clear hb A1 B1 HAl HBit c0 c1 c2 c3 c4 c5 c6 X1
          obtain ⟨c0, c1, c2, c3, c4, c5, c6⟩ := x3
          go_wp2_with fail
          refine (kid_is _ _ _ _ _ _ _ _ _).mono ?_
          rintro o w4 ⟨rfl, hb⟩
          have A4 := Lib.hid (A3.out.below hb)
          have B4 := Lib.hid (B3.out.trans (hb.mono B3.out.size))
          clear hb A3 B3 c0 c1 c2 c3 c4 c5 c6
          go_wp2_with fail
          simp only [Exit.jump]
          go_ret
          exact ⟨by rw [HRm.out]; first | done | rfl, B4.out⟩
        · have m1 : 0 < (m : Int) := by omega
          go_wp2_with fail
          refine HRow.out.mono ?_
          rintro o w1 ⟨⟨b, rfl⟩, ha1, hk1⟩
          have x1 := box7 (heap_alloc_new w1 (.cells #[.int .i64 tag, .int .i64 k0, .int .i64 k1, .int .i64 k2, .int .i64 k3, .int .u64 A, .int .u64 B] 47))
          have A1 := Lib.hid (ha1.alloc (.cells #[.int .i64 tag, .int .i64 k0, .int .i64 k1, .int .i64 k2, .int .i64 k3, .int .u64 A, .int .u64 B] 47))
          have B1a := Hb.out.trans (hk1.mono Hb.out.size)
          have B1 := Lib.hid (B1a.alloc B1a.size (.cells #[.int .i64 tag, .int .i64 k0, .int .i64 k1, .int .i64 k2, .int .i64 k3, .int .u64 A, .int .u64 B] 47))
          have X1 := Lib.hid x1
          obtain ⟨c0, c1, c2, c3, c4, c5, c6⟩ := x1
          clear ha1 hk1 B1a HRow ha
          go_wp2_with fail
          refine (HBit _).out.mono ?_
          rintro o w2 ⟨rfl, rfl⟩
          go_wp2_with fail
          refine (HAl _ A1.out).out.mono ?_
          rintro o w3 ⟨rfl, hb⟩
          have A3 := Lib.hid (A1.out.below hb)
          have B3 := Lib.hid (B1.out.trans (hb.mono B1.out.size))
          have x3 := box7_keep hb X1.out
          clear hb A1 B1 HAl HBit c0 c1 c2 c3 c4 c5 c6 X1
          obtain ⟨c0, c1, c2, c3, c4, c5, c6⟩ := x3
          go_wp2_with fail
          refine (kid_is _ _ _ _ _ _ _ _ _).mono ?_
          rintro o w4 ⟨rfl, hb⟩
          have A4 := Lib.hid (A3.out.below hb)
          have B4 := Lib.hid (B3.out.trans (hb.mono B3.out.size))
          clear hb A3 B3 c0 c1 c2 c3 c4 c5 c6
          go_wp2_with fail
          go_step3
          have hlv := HLv.out
          obtain ⟨x', N'⟩ := wnode G.out SN.out HZ.out NN.out.zero NN.out.fz (Nat.le_trans (List.length_filter_le _ _) HL.out)
          exact ⟨rfl, k, by omega, _, _, _, m, _, x', _, _, _, _, _, _, _, _, _, _, _, _, _, _, _, _, _, _, _, _, _, _, _, _, _, _, _, _, _, _, _, _, _, _, _, _, _, _, rfl, by omega, by omega, A4.out, B4.out, N', by have := HmL.out; omega, Nat.le_trans (List.length_filter_le _ _) HL.out, HmR.out.symm⟩
    · skip
      obtain ⟨m, hm, hml, hmR⟩ := wrank_step (c := c) (ys := ys) hbit
      rw [hR] at hmR
      have HBit := fun W => Lib.hid (show Calls Try.prog 30 #[.int .i64 (v : Int), .int .i64 lv] W fun e w' => e = .returned (.bool true) ∧ W = w' from by rw [Hlv.out, ← hbit]; exact bit_is k v (by omega) HV.out W)
      have HAl := fun W (ha : Ars W K p s) => Lib.hid (show Calls Try.prog 31 #[.pointer (some ⟨p, 0, none⟩), .int .i64 k0, .int .i64 i, .bool true] W fun e w' => e = .returned (.int .i64 (m : Int)) ∧ Below W.heap.size W w' from by rw [hm]; exact alike_any (i := i) (c := c) true G.out SN.out NN.out.bits (by rw [yl]; have := HL.out; omega) (by rw [yl]; exact Hc.out) ha)
      rw [(bit_eq (wb k) ys).1] at hml hmR
      have HmL := Lib.hid hml
      have HmR := Lib.hid hmR
      have hmI : (m : Int) ≤ 5000 := by have := HL.out; have := List.length_filter_le (wb k) ys; omega
      clear hm hml hmR hR N yl Hc
      cases k with
      | zero =>
        obtain rfl : lv = 8 := by omega
        clear hlv0
        have hRm : (R : Int) = (m : Int) := by rw [HmR.out, wrank_zero HmL.out]
        have HRm := Lib.hid hRm
        clear hRm
        rcases Nat.eq_zero_or_pos m with m0 | m0
        · subst m0
          go_wp2_with fail
          refine HRow.out.mono ?_
          rintro o w1 ⟨⟨b, rfl⟩, ha1, hk1⟩
          have x1 := box7 (heap_alloc_new w1 (.cells #[.int .i64 tag, .int .i64 k0, .int .i64 k1, .int .i64 k2, .int .i64 k3, .int .u64 A, .int .u64 B] 47))
          have A1 := Lib.hid (ha1.alloc (.cells #[.int .i64 tag, .int .i64 k0, .int .i64 k1, .int .i64 k2, .int .i64 k3, .int .u64 A, .int .u64 B] 47))
          have B1a := Hb.out.trans (hk1.mono Hb.out.size)
          have B1 := Lib.hid (B1a.alloc B1a.size (.cells #[.int .i64 tag, .int .i64 k0, .int .i64 k1, .int .i64 k2, .int .i64 k3, .int .u64 A, .int .u64 B] 47))
          have X1 := Lib.hid x1
          obtain ⟨c0, c1, c2, c3, c4, c5, c6⟩ := x1
          clear ha1 hk1 B1a HRow ha
          go_wp2_with fail
          refine (HBit _).out.mono ?_
          rintro o w2 ⟨rfl, rfl⟩
          go_wp2_with fail
          refine (HAl _ A1.out).out.mono ?_
          rintro o w3 ⟨rfl, hb⟩
          have A3 := Lib.hid (A1.out.below hb)
          have B3 := Lib.hid (B1.out.trans (hb.mono B1.out.size))
          have x3 := box7_keep hb X1.out
          clear hb A1 B1 HAl HBit c0 c1 c2 c3 c4 c5 c6 X1
          obtain ⟨c0, c1, c2, c3, c4, c5, c6⟩ := x3
          go_wp2_with fail
          refine (kid_is _ _ _ _ _ _ _ _ _).mono ?_
          rintro o w4 ⟨rfl, hb⟩
          have A4 := Lib.hid (A3.out.below hb)
          have B4 := Lib.hid (B3.out.trans (hb.mono B3.out.size))
          clear hb A3 B3 c0 c1 c2 c3 c4 c5 c6
          go_wp2_with fail
          simp only [Exit.jump]
          go_ret
          exact ⟨by rw [HRm.out]; first | done | rfl, B4.out⟩
        · have m1 : 0 < (m : Int) := by omega
          go_wp2_with fail
          refine HRow.out.mono ?_
          rintro o w1 ⟨⟨b, rfl⟩, ha1, hk1⟩
          have x1 := box7 (heap_alloc_new w1 (.cells #[.int .i64 tag, .int .i64 k0, .int .i64 k1, .int .i64 k2, .int .i64 k3, .int .u64 A, .int .u64 B] 47))
          have A1 := Lib.hid (ha1.alloc (.cells #[.int .i64 tag, .int .i64 k0, .int .i64 k1, .int .i64 k2, .int .i64 k3, .int .u64 A, .int .u64 B] 47))
          have B1a := Hb.out.trans (hk1.mono Hb.out.size)
          have B1 := Lib.hid (B1a.alloc B1a.size (.cells #[.int .i64 tag, .int .i64 k0, .int .i64 k1, .int .i64 k2, .int .i64 k3, .int .u64 A, .int .u64 B] 47))
          have X1 := Lib.hid x1
          obtain ⟨c0, c1, c2, c3, c4, c5, c6⟩ := x1
          clear ha1 hk1 B1a HRow ha
          go_wp2_with fail
          refine (HBit _).out.mono ?_
          rintro o w2 ⟨rfl, rfl⟩
          go_wp2_with fail
          refine (HAl _ A1.out).out.mono ?_
          rintro o w3 ⟨rfl, hb⟩
          have A3 := Lib.hid (A1.out.below hb)
          have B3 := Lib.hid (B1.out.trans (hb.mono B1.out.size))
          have x3 := box7_keep hb X1.out
          clear hb A1 B1 HAl HBit c0 c1 c2 c3 c4 c5 c6 X1
          obtain ⟨c0, c1, c2, c3, c4, c5, c6⟩ := x3
          go_wp2_with fail
          refine (kid_is _ _ _ _ _ _ _ _ _).mono ?_
          rintro o w4 ⟨rfl, hb⟩
          have A4 := Lib.hid (A3.out.below hb)
          have B4 := Lib.hid (B3.out.trans (hb.mono B3.out.size))
          clear hb A3 B3 c0 c1 c2 c3 c4 c5 c6
          go_wp2_with fail
          simp only [Exit.jump]
          go_ret
          exact ⟨by rw [HRm.out]; first | done | rfl, B4.out⟩
      | succ k =>
        have lv1 : lv + 1 < 9 := by omega
        have lv2 : 0 ≤ lv := by omega
        clear hlv0
        rcases Nat.eq_zero_or_pos m with m0 | m0
        · subst m0
          have hRm : (R : Int) = 0 := by rw [HmR.out]; unfold wrank; simp
          have HRm := Lib.hid hRm
          clear hRm
          go_wp2_with fail
          refine HRow.out.mono ?_
          rintro o w1 ⟨⟨b, rfl⟩, ha1, hk1⟩
          have x1 := box7 (heap_alloc_new w1 (.cells #[.int .i64 tag, .int .i64 k0, .int .i64 k1, .int .i64 k2, .int .i64 k3, .int .u64 A, .int .u64 B] 47))
          have A1 := Lib.hid (ha1.alloc (.cells #[.int .i64 tag, .int .i64 k0, .int .i64 k1, .int .i64 k2, .int .i64 k3, .int .u64 A, .int .u64 B] 47))
          have B1a := Hb.out.trans (hk1.mono Hb.out.size)
          have B1 := Lib.hid (B1a.alloc B1a.size (.cells #[.int .i64 tag, .int .i64 k0, .int .i64 k1, .int .i64 k2, .int .i64 k3, .int .u64 A, .int .u64 B] 47))
          have X1 := Lib.hid x1
          obtain ⟨c0, c1, c2, c3, c4, c5, c6⟩ := x1
          clear ha1 hk1 B1a HRow ha
          go_wp2_with fail
          refine (HBit _).out.mono ?_
          rintro o w2 ⟨rfl, rfl⟩
          go_wp2_with fail
          refine (HAl _ A1.out).out.mono ?_
          rintro o w3 ⟨rfl, hb⟩
          have A3 := Lib.hid (A1.out.below hb)
          have B3 := Lib.hid (B1.out.trans (hb.mono B1.out.size))
          have x3 := box7_keep hb X1.out
          clear hb A1 B1 HAl HBit c0 c1 c2 c3 c4 c5 c6 X1
          obtain ⟨c0, c1, c2, c3, c4, c5, c6⟩ := x3
          go_wp2_with fail
          refine (kid_is _ _ _ _ _ _ _ _ _).mono ?_
          rintro o w4 ⟨rfl, hb⟩
          have A4 := Lib.hid (A3.out.below hb)
          have B4 := Lib.hid (B3.out.trans (hb.mono B3.out.size))
          clear hb A3 B3 c0 c1 c2 c3 c4 c5 c6
          go_wp2_with fail
          simp only [Exit.jump]
          go_ret
          exact ⟨by rw [HRm.out]; first | done | rfl, B4.out⟩
        · have m1 : 0 < (m : Int) := by omega
          go_wp2_with fail
          refine HRow.out.mono ?_
          rintro o w1 ⟨⟨b, rfl⟩, ha1, hk1⟩
          have x1 := box7 (heap_alloc_new w1 (.cells #[.int .i64 tag, .int .i64 k0, .int .i64 k1, .int .i64 k2, .int .i64 k3, .int .u64 A, .int .u64 B] 47))
          have A1 := Lib.hid (ha1.alloc (.cells #[.int .i64 tag, .int .i64 k0, .int .i64 k1, .int .i64 k2, .int .i64 k3, .int .u64 A, .int .u64 B] 47))
          have B1a := Hb.out.trans (hk1.mono Hb.out.size)
          have B1 := Lib.hid (B1a.alloc B1a.size (.cells #[.int .i64 tag, .int .i64 k0, .int .i64 k1, .int .i64 k2, .int .i64 k3, .int .u64 A, .int .u64 B] 47))
          have X1 := Lib.hid x1
          obtain ⟨c0, c1, c2, c3, c4, c5, c6⟩ := x1
          clear ha1 hk1 B1a HRow ha
          go_wp2_with fail
          refine (HBit _).out.mono ?_
          rintro o w2 ⟨rfl, rfl⟩
          go_wp2_with fail
          refine (HAl _ A1.out).out.mono ?_
          rintro o w3 ⟨rfl, hb⟩
          have A3 := Lib.hid (A1.out.below hb)
          have B3 := Lib.hid (B1.out.trans (hb.mono B1.out.size))
          have x3 := box7_keep hb X1.out
          clear hb A1 B1 HAl HBit c0 c1 c2 c3 c4 c5 c6 X1
          obtain ⟨c0, c1, c2, c3, c4, c5, c6⟩ := x3
          go_wp2_with fail
          refine (kid_is _ _ _ _ _ _ _ _ _).mono ?_
          rintro o w4 ⟨rfl, hb⟩
          have A4 := Lib.hid (A3.out.below hb)
          have B4 := Lib.hid (B3.out.trans (hb.mono B3.out.size))
          clear hb A3 B3 c0 c1 c2 c3 c4 c5 c6
          go_wp2_with fail
          go_step3
          have hlv := HLv.out
          obtain ⟨x', N'⟩ := wnode G.out SN.out HZ.out NN.out.one NN.out.fo (Nat.le_trans (List.length_filter_le _ _) HL.out)
          exact ⟨rfl, k, by omega, _, _, _, m, _, x', _, _, _, _, _, _, _, _, _, _, _, _, _, _, _, _, _, _, _, _, _, _, _, _, _, _, _, _, _, _, _, _, _, _, _, _, _, _, rfl, by omega, by omega, A4.out, B4.out, N', by have := HmL.out; omega, Nat.le_trans (List.length_filter_le _ _) HL.out, HmR.out.symm⟩
end
end Go.Proofs.Ytdipgcbppggdhaa
