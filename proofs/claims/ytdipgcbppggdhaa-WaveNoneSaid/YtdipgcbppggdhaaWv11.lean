/- Package wave: how many are less than a symbol. -/
import Derived.Test.YtdipgcbppggdhaaWv10
namespace Go.Proofs.Ytdipgcbppggdhaa
set_option maxRecDepth 100000
open Go.RowKit
theorem wbef_step {k v : Nat} {ys : List Nat} {one : Bool} (ho : wb k v = one) : wbef (k + 1) v ys = (if one = true then (ys.map (wb k)).count false else 0) + wbef k v (ys.filter fun y => wb k y == one) := by
  subst ho
  exact wbef_up k v ys
theorem wbef_le (k v : Nat) (ys : List Nat) : wbef k v ys ≤ ys.length := List.countP_le_length
def WBefJ (K : Nat → Prop) (p : Nat) (s : Ar) (L : List Int) (w : World) (v R : Nat) (k : Nat) (a : Act) (W : World) : Prop :=
  ∃ (h ac lv : Int) (ys : List Nat) (x : Nd) (u3 u4 u5 u9 u10 u11 u12 u13 u14 u15 u16 u17 u18 u19 u20 u21 u22 u23 u24 u25 u26 u27 u28 u29 u30 u31 u32 u33 u34 u35 u36 u37 u38 u39 u40 u41 u42 u43 u44 u45 u46 u47 u48 u49 u50 : Value), a = { tmps := #[.pointer (some ⟨p, 0, none⟩), .int .i64 h, .int .i64 (v : Int), u3, u4, u5, .int .i64 0, .int .i64 ac, .int .i64 lv, u9, u10, u11, u12, u13, u14, u15, u16, u17, u18, u19, u20, u21, u22, u23, u24, u25, u26, u27, u28, u29, u30, u31, u32, u33, u34, u35, u36, u37, u38, u39, u40, u41, u42, u43, u44, u45, u46, u47, u48, u49, u50], defers := [] } ∧ lv = 8 - (k : Int) ∧ k ≤ 8 ∧ Ars W K p s ∧ Below w.heap.size w W ∧ WNode s L k h ys x ∧ ys.length ≤ 5000 ∧ 0 ≤ ac ∧ ac + wbef (k + 1) v ys = R
section
variable {K : Nat → Prop} {p : Nat} {s : Ar} {L : List Int} {w : World} {h : Int} {xs : List Nat}
set_option maxHeartbeats 1000000 in
theorem wbefore_neg (v : Int) (hv : v < 0) (a h : Value) (w : World) : Calls Try.prog 15 #[a, h, .int .i64 v] w fun e w' => e = .returned (.int .i64 0) ∧ w = w' := by
  go_enter Try.func15, Try.ntmps15
  go_wp2_with fail
  refine wp_scope_ghost 0 (fun _ _ _ => False) rfl (fun _ _ _ h => h.elim) fun _ => ?_
  go_wp2_with fail
  simp only [Exit.jump]
  go_ret
  exact ⟨rfl, rfl⟩
set_option maxHeartbeats 1000000 in
theorem wbefore_all (v : Int) (hv : 257 ≤ v) {x : Nd} (g : Gd s L) (sn : Snd s) (N : WNode s L 8 h xs x) (ha : Ars w K p s) : Calls Try.prog 15 #[.pointer (some ⟨p, 0, none⟩), .int .i64 h, .int .i64 v] w fun e w' => e = .returned (.int .i64 xs.length) ∧ Below w.heap.size w w' := by
  have H := Lib.hid (wlen_node g sn N ha)
  have h0 : 0 ≤ v := by omega
  clear g sn N ha
  go_enter Try.func15, Try.ntmps15
  go_wp2_with fail
  refine wp_scope_ghost 0 (fun _ _ _ => False) rfl (fun _ _ _ h => h.elim) fun _ => ?_
  go_wp2_with fail
  refine H.out.mono ?_
  rintro o w1 ⟨rfl, hb⟩
  go_wp2_with fail
  simp only [Exit.jump]
  go_ret
  exact ⟨rfl, hb⟩
set_option maxRecDepth 100000 in
set_option maxHeartbeats 16000000 in
theorem wbefore_is {v : Nat} {x : Nd} (g : Gd s L) (sn : Snd s) (hz : (0 : Int) ∈ L) (N0 : WNode s L 8 h xs x) (hx : xs.length ≤ 5000) (hv : v < 257) (ha : Ars w K p s) :
    Calls Try.prog 15 #[.pointer (some ⟨p, 0, none⟩), .int .i64 h, .int .i64 v] w fun e w' => e = .returned (.int .i64 (wbef 9 v xs : Nat)) ∧ Below w.heap.size w w' := by
  obtain ⟨R, hRe⟩ : ∃ R, R = wbef 9 v xs := ⟨_, rfl⟩
  rw [← hRe]
  have hRl : R ≤ 5000 := by rw [hRe]; exact Nat.le_trans (wbef_le 9 v xs) hx
  have J0 := Lib.hid (show Ars w K p s ∧ Below w.heap.size w w ∧ WNode s L 8 h xs x ∧ xs.length ≤ 5000 ∧ (0 : Int) ≤ 0 ∧ (0 : Int) + wbef (8 + 1) v xs = R from ⟨ha, Below.refl _ _, N0, hx, by omega, by rw [hRe, Int.zero_add]⟩)
  have G := Lib.hid g
  have SN := Lib.hid sn
  have HZ := Lib.hid hz
  have HV := Lib.hid hv
  have HR5 := Lib.hid hRl
  have v1 : (v : Int) < 257 := by omega
  clear g sn hz N0 hx ha hv hRe hRl
  go_enter Try.func15, Try.ntmps15
  go_wp2_with fail
  refine wp_scope_ghost 0 (WBefJ K p s L w v R) rfl ?pass ?first
  case first =>
    intro hp
    go_wp2_with fail
    go_step3
    rename_i K hK
    exact hK _ _ (hp.out 8 _ _ ⟨h, _, _, xs, x, _, _, _, _, _, _, _, _, _, _, _, _, _, _, _, _, _, _, _, _, _, _, _, _, _, _, _, _, _, _, _, _, _, _, _, _, _, _, _, _, _, _, _, _, _, rfl, by omega, by omega, J0.out⟩)
  case pass =>
    clear J0 v1
    rintro k a' W0 ⟨h, ac, lv, ys, x, u3, u4, u5, u9, u10, u11, u12, u13, u14, u15, u16, u17, u18, u19, u20, u21, u22, u23, u24, u25, u26, u27, u28, u29, u30, u31, u32, u33, u34, u35, u36, u37, u38, u39, u40, u41, u42, u43, u44, u45, u46, u47, u48, u49, u50, rfl, hlv0, hk8, ha, hb, N, hl, hac, hR⟩
    have HRow := Lib.hid (N.row ha)
    have NN := Lib.hid N
    have HL := Lib.hid hl
    have HLv := Lib.hid hlv0
    have Hlv := Lib.hid (show lv = ((8 - k : Nat) : Int) by omega)
    have Hb := Lib.hid hb
    have yl : (ys.map (wb k)).length = ys.length := List.length_map ..
    have hkI : (k : Int) ≤ 8 := by omega
    have hacI : ac ≤ 5000 := by have := HR5.out; omega
    obtain ⟨tag, k0, k1, k2, k3, A, B⟩ := x
    clear hb hl
    cases hbit : wb k v
    · have hst := wbef_step (ys := ys) hbit
      have HBit := fun W => Lib.hid (show Calls Try.prog 30 #[.int .i64 (v : Int), .int .i64 lv] W fun e w' => e = .returned (.bool false) ∧ W = w' from by rw [Hlv.out, ← hbit]; exact bit_is k v (by omega) HV.out W)
      clear hbit
      rw [if_neg (by decide), Nat.zero_add] at hst
      have HSt := Lib.hid (show ac + wbef k v (ys.filter fun y => wb k y == false) = R by omega)
      clear hst hR N yl
      cases k with
      | zero =>
        obtain rfl : lv = 8 := by omega
        have HRm := Lib.hid (show (R : Int) = ac by have := HSt.out; rw [wbef_zero] at this; omega)
        clear hlv0
        go_wp2_with fail
        refine HRow.out.mono ?_
        rintro o w1 ⟨⟨b, rfl⟩, ha1, hk1⟩
        have x1 := box7 (heap_alloc_new w1 (.cells #[.int .i64 tag, .int .i64 k0, .int .i64 k1, .int .i64 k2, .int .i64 k3, .int .u64 A, .int .u64 B] 47))
        have A1 := Lib.hid (ha1.alloc (.cells #[.int .i64 tag, .int .i64 k0, .int .i64 k1, .int .i64 k2, .int .i64 k3, .int .u64 A, .int .u64 B] 47))
        have B1a := Hb.out.trans (hk1.mono Hb.out.size)
        have B1 := Lib.hid (B1a.alloc B1a.size (.cells #[.int .i64 tag, .int .i64 k0, .int .i64 k1, .int .i64 k2, .int .i64 k3, .int .u64 A, .int .u64 B] 47))
        have X1 := Lib.hid x1
        obtain ⟨c0, c1, c2, c3, c4, c5, c6⟩ := x1
        clear ha1 hk1 B1a HRow ha
        go_wp2_with fail
        refine (HBit _).out.mono ?_
        rintro o w2 ⟨rfl, rfl⟩
        go_wp2_with fail
        refine (kid_is _ _ _ _ _ _ _ _ _).mono ?_
        rintro o w4 ⟨rfl, hb⟩
        have A4 := Lib.hid (A1.out.below hb)
        have B4 := Lib.hid (B1.out.trans (hb.mono B1.out.size))
        clear hb c0 c1 c2 c3 c4 c5 c6
        go_wp2_with fail
        simp only [Exit.jump]
        go_ret
        exact ⟨by rw [HRm.out]; first | done | rfl, B4.out⟩
      | succ k =>
        have lv1 : lv + 1 < 9 := by omega
        have lv2 : 0 ≤ lv := by omega
        clear hlv0
        go_wp2_with fail
        refine HRow.out.mono ?_
        rintro o w1 ⟨⟨b, rfl⟩, ha1, hk1⟩
        have x1 := box7 (heap_alloc_new w1 (.cells #[.int .i64 tag, .int .i64 k0, .int .i64 k1, .int .i64 k2, .int .i64 k3, .int .u64 A, .int .u64 B] 47))
        have A1 := Lib.hid (ha1.alloc (.cells #[.int .i64 tag, .int .i64 k0, .int .i64 k1, .int .i64 k2, .int .i64 k3, .int .u64 A, .int .u64 B] 47))
        have B1a := Hb.out.trans (hk1.mono Hb.out.size)
        have B1 := Lib.hid (B1a.alloc B1a.size (.cells #[.int .i64 tag, .int .i64 k0, .int .i64 k1, .int .i64 k2, .int .i64 k3, .int .u64 A, .int .u64 B] 47))
        have X1 := Lib.hid x1
        obtain ⟨c0, c1, c2, c3, c4, c5, c6⟩ := x1
        clear ha1 hk1 B1a HRow ha
        go_wp2_with fail
        refine (HBit _).out.mono ?_
        rintro o w2 ⟨rfl, rfl⟩
        go_wp2_with fail
        refine (kid_is _ _ _ _ _ _ _ _ _).mono ?_
        rintro o w4 ⟨rfl, hb⟩
        have A4 := Lib.hid (A1.out.below hb)
        have B4 := Lib.hid (B1.out.trans (hb.mono B1.out.size))
        clear hb c0 c1 c2 c3 c4 c5 c6
        go_wp2_with fail
        go_step3
        have hlv := HLv.out
        obtain ⟨x', N'⟩ := wnode G.out SN.out HZ.out (by rw [(bit_eq (wb (k + 1)) ys).2]; exact NN.out.zero) NN.out.fz (Nat.le_trans (List.length_filter_le _ _) HL.out)
        exact ⟨rfl, k, by omega, _, _, _, _, x', _, _, _, _, _, _, _, _, _, _, _, _, _, _, _, _, _, _, _, _, _, _, _, _, _, _, _, _, _, _, _, _, _, _, _, _, _, _, _, _, _, _, _, _, _, rfl, by omega, by omega, A4.out, B4.out, N', Nat.le_trans (List.length_filter_le _ _) HL.out, by omega, HSt.out⟩
    · have hst := wbef_step (ys := ys) hbit
      have HBit := fun W => Lib.hid (show Calls Try.prog 30 #[.int .i64 (v : Int), .int .i64 lv] W fun e w' => e = .returned (.bool true) ∧ W = w' from by rw [Hlv.out, ← hbit]; exact bit_is k v (by omega) HV.out W)
      clear hbit
      obtain ⟨z, hz⟩ : ∃ z, z = (ys.map (wb k)).count false := ⟨_, rfl⟩
      have HLen := fun W (ha : Ars W K p s) => Lib.hid (show Calls Try.prog 34 #[.pointer (some ⟨p, 0, none⟩), .int .i64 k0] W fun e w' => e = .returned (.int .i64 ((ys.length : Nat) : Int)) ∧ Below W.heap.size W w' from by rw [← yl]; exact flen_row G.out SN.out NN.out.bits ha)
      have HAl := fun W (ha : Ars W K p s) => Lib.hid (show Calls Try.prog 31 #[.pointer (some ⟨p, 0, none⟩), .int .i64 k0, .int .i64 ((ys.length : Nat) : Int), .bool false] W fun e w' => e = .returned (.int .i64 (z : Int)) ∧ Below W.heap.size W w' from by
        have h := alike_in (i := ys.length) (w := W) (K := K) (p := p) false G.out SN.out NN.out.bits (by rw [yl]; have := HL.out; omega) (by rw [yl]; exact Nat.le_refl _) ha
        rw [List.take_of_length_le (by rw [yl]; exact Nat.le_refl _), ← hz] at h
        exact h)
      have zl : (z : Int) ≤ 5000 := by have := List.count_le_length (a := false) (l := ys.map (wb k)); have := HL.out; omega
      rw [if_pos rfl, ← hz] at hst
      clear hz
      obtain ⟨n, hn⟩ : ∃ n, n = ys.length := ⟨_, rfl⟩
      rw [← hn] at HLen HAl
      have hnI : (n : Int) ≤ 5000 := by have := HL.out; omega
      clear hn
      have HSt := Lib.hid (show ac + z + wbef k v (ys.filter fun y => wb k y == true) = R by omega)
      have hsum : IntKind.i64.wrap (ac + (z : Int)) = ac + (z : Int) := bwrap_small (by omega) (by omega)
      have hsum2 : wrap64 (ac + (z : Int)) = ac + (z : Int) := IntWalk.wrap64_in _ (by omega)
      have acz : 0 ≤ ac + (z : Int) := by omega
      have acz2 : ac + (z : Int) ≤ 20000 := by omega
      clear hst hR N yl hlv0
      go_wp2_with fail
      refine HRow.out.mono ?_
      rintro o w1 ⟨⟨b, rfl⟩, ha1, hk1⟩
      have x1 := box7 (heap_alloc_new w1 (.cells #[.int .i64 tag, .int .i64 k0, .int .i64 k1, .int .i64 k2, .int .i64 k3, .int .u64 A, .int .u64 B] 47))
      have A1 := Lib.hid (ha1.alloc (.cells #[.int .i64 tag, .int .i64 k0, .int .i64 k1, .int .i64 k2, .int .i64 k3, .int .u64 A, .int .u64 B] 47))
      have B1a := Hb.out.trans (hk1.mono Hb.out.size)
      have B1 := Lib.hid (B1a.alloc B1a.size (.cells #[.int .i64 tag, .int .i64 k0, .int .i64 k1, .int .i64 k2, .int .i64 k3, .int .u64 A, .int .u64 B] 47))
      have X1 := Lib.hid x1
      obtain ⟨c0, c1, c2, c3, c4, c5, c6⟩ := x1
      clear ha1 hk1 B1a HRow ha
      go_wp2_with fail
      refine (HBit _).out.mono ?_
      rintro o w2 ⟨rfl, rfl⟩
      go_upto_region 9 with fail
      generalize w1.alloc (.cells #[.int .i64 tag, .int .i64 k0, .int .i64 k1, .int .i64 k2, .int .i64 k3, .int .u64 A, .int .u64 B] 47) = w5 at *
      generalize w1.heap.size = zz at *
      go_cut [7] (fun a W => a = .int .i64 (ac + (z : Int)) ∧ Below w5.heap.size w5 W)
      case first =>
        rename_i Qx hl0 Kx h2 J0 K0 h1 h0
        clear h2
        clear_value Qx
        have H0 := Lib.hid h0
        have H1 := Lib.hid h1
        clear h0 h1
        refine wp_region_noPanic ?_
        refine wp_region_held_drew (S := fun w' => Below w5.heap.size w5 w') (by kernel_rfl) ((Below.refl _ _).drew) (fun hHeld => ?_)
        refine takeS (i := 0) (d := some 31) (v := (.int .i64 ac)) rfl rfl (by kernel_rfl) (by kernel_rfl) (by kernel_rfl) (fun _ _ _ h => h) (by rfl) (fun W hW => by rfl) hHeld ?_
        try simp only [Act.put, List.setIfInBounds_toArray, List.set_cons_zero, List.set_cons_succ]
        refine takeS (i := 1) (d := some 32) (v := (.pointer (some ⟨p, 0, none⟩))) rfl rfl (by kernel_rfl) (by kernel_rfl) (by kernel_rfl) (fun _ _ _ h => h) (by rfl) (fun W hW => by rfl) hHeld ?_
        try simp only [Act.put, List.setIfInBounds_toArray, List.set_cons_zero, List.set_cons_succ]
        refine takeS (i := 2) (d := some 33) (v := (.pointer (some ⟨zz, 1, none⟩))) rfl rfl (by kernel_rfl) (by kernel_rfl) (by kernel_rfl) (fun _ _ _ h => h) (by rfl) (fun W hW => by rfl) hHeld ?_
        try simp only [Act.put, List.setIfInBounds_toArray, List.set_cons_zero, List.set_cons_succ]
        refine takeS (i := 3) (d := some 34) (v := (.pointer (some ⟨zz, 1, none⟩))) rfl rfl (by kernel_rfl) (by kernel_rfl) (by kernel_rfl) (fun _ _ _ h => h) (by rfl) (fun W hW => by rfl) hHeld ?_
        try simp only [Act.put, List.setIfInBounds_toArray, List.set_cons_zero, List.set_cons_succ]
        refine takeS (i := 4) (d := some 35) (v := (.int .i64 k0)) rfl rfl (by kernel_rfl) (by kernel_rfl) (by kernel_rfl) (fun _ _ _ h => h) (by rfl) (fun W hW => by obtain ⟨c0, c1, c2, c3, c4, c5, c6⟩ := box7_keep hW X1.out; go_simp) hHeld ?_
        try simp only [Act.put, List.setIfInBounds_toArray, List.set_cons_zero, List.set_cons_succ]
        refine takeS (i := 5) (d := some 36) (v := (.pointer (some ⟨p, 0, none⟩))) rfl rfl (by kernel_rfl) (by kernel_rfl) (by kernel_rfl) (fun _ _ _ h => h) (by rfl) (fun W hW => by rfl) hHeld ?_
        try simp only [Act.put, List.setIfInBounds_toArray, List.set_cons_zero, List.set_cons_succ]
        refine takeS (i := 6) (d := some 37) (v := (.pointer (some ⟨zz, 1, none⟩))) rfl rfl (by kernel_rfl) (by kernel_rfl) (by kernel_rfl) (fun _ _ _ h => h) (by rfl) (fun W hW => by rfl) hHeld ?_
        try simp only [Act.put, List.setIfInBounds_toArray, List.set_cons_zero, List.set_cons_succ]
        refine takeS (i := 7) (d := some 38) (v := (.pointer (some ⟨zz, 1, none⟩))) rfl rfl (by kernel_rfl) (by kernel_rfl) (by kernel_rfl) (fun _ _ _ h => h) (by rfl) (fun W hW => by rfl) hHeld ?_
        try simp only [Act.put, List.setIfInBounds_toArray, List.set_cons_zero, List.set_cons_succ]
        refine takeS (i := 8) (d := some 39) (v := (.int .i64 k0)) rfl rfl (by kernel_rfl) (by kernel_rfl) (by kernel_rfl) (fun _ _ _ h => h) (by rfl) (fun W hW => by obtain ⟨c0, c1, c2, c3, c4, c5, c6⟩ := box7_keep hW X1.out; go_simp) hHeld ?_
        try simp only [Act.put, List.setIfInBounds_toArray, List.set_cons_zero, List.set_cons_succ]
        refine wpAnyH_ready (rs := [9]) (by kernel_rfl) (by simp) ?_
        refine AllReadyH.cons rfl (fun K hK => ?_) AllReadyH.nil
        go_simp
        refine (HLen _ (A1.out.below hHeld)).out.mono ?_
        rintro o w3 ⟨rfl, hb3⟩
        have A3 := Lib.hid ((A1.out.below hHeld).below hb3)
        have B3 := hHeld.trans (hb3.mono hHeld.size)
        clear hHeld
        refine hK.out _ _ (B3) (fun hHeld => ?_)
        clear hK K
        try simp only [Act.put, List.setIfInBounds_toArray, List.set_cons_zero, List.set_cons_succ]
        refine wpAnyH_ready (rs := [10]) (by kernel_rfl) (by simp) ?_
        refine AllReadyH.cons rfl (fun K hK => ?_) AllReadyH.nil
        go_simp
        refine (HAl _ A3.out).out.mono ?_
        rintro o w4 ⟨rfl, hb4⟩
        have B4 := hHeld.trans (hb4.mono hHeld.size)
        clear hHeld
        refine hK.out _ _ (B4) (fun hHeld => ?_)
        clear hK K
        try simp only [Act.put, List.setIfInBounds_toArray, List.set_cons_zero, List.set_cons_succ]
        refine takeS (i := 11) (d := some 42) (v := (.int .i64 (ac + (z : Int)))) rfl rfl (by kernel_rfl) (by kernel_rfl) (by kernel_rfl) (fun _ _ _ h => h) (by rfl) (fun W hW => by go_simp) hHeld ?_
        try simp only [Act.put, List.setIfInBounds_toArray, List.set_cons_zero, List.set_cons_succ]
        refine takeS (i := 12) (d := some 7) (v := (.int .i64 (ac + (z : Int)))) rfl rfl (by kernel_rfl) (by kernel_rfl) (by kernel_rfl) (fun _ _ _ h => h) (by rfl) (fun W hW => by rfl) hHeld ?_
        try simp only [Act.put, List.setIfInBounds_toArray, List.set_cons_zero, List.set_cons_succ]
        refine wpAnyH_done (by kernel_rfl) ?_ _
        simp only [NoPanic]
        have h0 := H0.out
        have h1 := H1.out
        go_wp2_with fail
        go_meet
        case rel => exact ⟨rfl, B4⟩
      case rest =>
        obtain ⟨rfl, hb⟩ := hcut
        have A5 := Lib.hid (A1.out.below hb)
        have B5 := Lib.hid (B1.out.trans (hb.mono B1.out.size))
        have x5 := box7_keep hb X1.out
        clear hb A1 B1 HAl HLen HBit c0 c1 c2 c3 c4 c5 c6 X1
        obtain ⟨c0, c1, c2, c3, c4, c5, c6⟩ := x5
        cases k with
        | zero =>
          obtain rfl : lv = 8 := by have := HLv.out; omega
          have HRm := Lib.hid (show (R : Int) = ac + (z : Int) by have := HSt.out; rw [wbef_zero] at this; omega)
          go_wp2_with fail
          refine (kid_is _ _ _ _ _ _ _ _ _).mono ?_
          rintro o w4 ⟨rfl, hb⟩
          have A4 := Lib.hid (A5.out.below hb)
          have B4 := Lib.hid (B5.out.trans (hb.mono B5.out.size))
          clear hb c0 c1 c2 c3 c4 c5 c6
          go_wp2_with fail
          simp only [Exit.jump]
          go_ret
          exact ⟨by rw [HRm.out]; first | done | rfl, B4.out⟩
        | succ k =>
          have lv1 : lv + 1 < 9 := by have := HLv.out; omega
          have lv2 : 0 ≤ lv := by have := HLv.out; omega
          go_wp2_with fail
          refine (kid_is _ _ _ _ _ _ _ _ _).mono ?_
          rintro o w4 ⟨rfl, hb⟩
          have A4 := Lib.hid (A5.out.below hb)
          have B4 := Lib.hid (B5.out.trans (hb.mono B5.out.size))
          clear hb c0 c1 c2 c3 c4 c5 c6
          go_wp2_with fail
          go_step3
          have hlv := HLv.out
          obtain ⟨x', N'⟩ := wnode G.out SN.out HZ.out (by rw [(bit_eq (wb (k + 1)) ys).1]; exact NN.out.one) NN.out.fo (Nat.le_trans (List.length_filter_le _ _) HL.out)
          exact ⟨rfl, k, by omega, _, _, _, _, x', _, _, _, _, _, _, _, _, _, _, _, _, _, _, _, _, _, _, _, _, _, _, _, _, _, _, _, _, _, _, _, _, _, _, _, _, _, _, _, _, _, _, _, _, _, rfl, by omega, by omega, A4.out, B4.out, N', Nat.le_trans (List.length_filter_le _ _) HL.out, by omega, HSt.out⟩
end
end Go.Proofs.Ytdipgcbppggdhaa
