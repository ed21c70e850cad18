/- ArenaReach holds: what is reached from some is what is reached from each of them; a waiting node is none. No condition. -/
import Derived.Test.YtjndhjmbdhfclaaAr
import Derived.Test.YtjndhjmbdhfclaaRe
import Derived.Test.YtjndhjmbdhfclaaA8
import Derived.Test.YtjndhjmbdhfclaaLaw
namespace Go.Proofs.Ytjndhjmbdhfclaa.arenaReach
set_option maxRecDepth 100000
open Go.ChangeShapes Go.WideShapes Go.ChangeAt Go.RowKit
set_option linter.unusedVariables false

theorem ints_one {w : World} (x : Int) : Ints (w.alloc (.cells #[.int .i64 x] 3)) (.slice (some ⟨w.heap.size, 0, none⟩) 1 1) [x] := .inr ⟨w.heap.size, 0, 1, rfl, by simp, by simp, fun j hj => by
  obtain rfl : j = 0 := by simpa using hj
  exact cell_new rfl rfl⟩
theorem ints_two {w : World} (x y : Int) : Ints (w.alloc (.cells #[.int .i64 x, .int .i64 y] 3)) (.slice (some ⟨w.heap.size, 0, none⟩) 2 2) [x, y] := .inr ⟨w.heap.size, 0, 2, rfl, by simp, by simp, fun j hj => by
  have : j = 0 ∨ j = 1 := by simp at hj; omega
  rcases this with rfl | rfl <;> exact cell_new rfl rfl⟩
theorem ints_three {w : World} (x y z : Int) : Ints (w.alloc (.cells #[.int .i64 x, .int .i64 y, .int .i64 z] 3)) (.slice (some ⟨w.heap.size, 0, none⟩) 3 3) [x, y, z] := .inr ⟨w.heap.size, 0, 3, rfl, by simp, by simp, fun j hj => by
  have : j = 0 ∨ j = 1 ∨ j = 2 := by simp at hj; omega
  rcases this with rfl | rfl | rfl <;> exact cell_new rfl rfl⟩
set_option maxRecDepth 100000 in
set_option maxHeartbeats 8000000 in
theorem walk (n : Int) (w0 : (Lit.int .i64 n).wf = true) (iv : Int) (w1' : (Lit.int .i64 iv).wf = true) (jv : Int) (w2' : (Lit.int .i64 jv).wf = true) (w : World) :
    Calls Try.prog 3 #[.int .i64 n, .int .i64 iv, .int .i64 jv] w fun e w' => e = .returned (.bool true) ∧ Below w.heap.size w w' := by
  have HA := Lib.hid alive6
  by_cases h1 : n < 2
  · skip
    go_enter Try.func3, Try.ntmps3
    go_wp2_with fail
    refine (HA.out w).mono ?_
    rintro e w1 ⟨rfl, hb⟩
    go_wp2_with fail
    go_ret
    exact ⟨rfl, hb⟩
  by_cases h2 : 30 < n
  · skip
    go_enter Try.func3, Try.ntmps3
    go_wp2_with fail
    refine (HA.out w).mono ?_
    rintro e w1 ⟨rfl, hb⟩
    go_wp2_with fail
    go_ret
    exact ⟨rfl, hb⟩
  obtain ⟨N, rfl⟩ := Int.eq_ofNat_of_zero_le (show 0 ≤ n by omega)
  obtain ⟨K, hK⟩ : ∃ K : Nat → Prop, K = fun b => b < w.heap.size := ⟨_, rfl⟩
  have HK := Lib.hid hK
  clear hK
  go_enter Try.func3, Try.ntmps3
  go_wp2_with fail
  refine (HA.out w).mono ?_
  rintro e w1 ⟨rfl, hb⟩
  have Hk := Lib.hid (Kept.of_below hb K)
  clear hb
  go_wp2_with fail
  refine (new_yes 40 _ (by decide) (by decide)).mono ?_
  rintro e w2 ⟨p, rfl, hb, ha⟩
  replace ha := ha K (fun b h => by rw [HK.out] at h; have := Hk.out.size; omega)
  replace Hk := Lib.hid (Hk.out.trans (Kept.of_below hb K))
  clear hb
  go_wp2_with fail
  have Ha := Lib.hid ha
  clear ha
  go_loopw [8] (fun k W => ∃ j : Nat, k = .int .i64 ((j : Int) + 1) ∧ j ≤ N ∧ ∃ s, Tv s j (4 * j) ∧ Ars W K p s ∧ Kept K w W) (fun k _ => N + 1 - (intOf k).toNat)
  case atStart => exact ⟨0, rfl, by omega, _, tv_new, Ha.out, Hk.out⟩
  case round =>
    obtain ⟨j, rfl, j1, s, hs, ha, hk⟩ := hrel
    clear Ha Hk
    have Hs := Lib.hid hs
    by_cases hlt : j < N
    · by_cases j2 : 2 < (j : Int) + 1
      · have t2 : ((j : Int) + 1).tdiv 2 = ((j : Int) + 1) / 2 := Int.tdiv_eq_ediv_of_nonneg (by omega)
        have t3 : ((j : Int) + 1).tdiv 3 = ((j : Int) + 1) / 3 := Int.tdiv_eq_ediv_of_nonneg (by omega)
        obtain ⟨t, e1, ht⟩ := hs.next (x := ⟨3, ((j : Int) + 1) / 2, 0, ((j : Int) + 1) / 3, 0, 0, 0⟩) (by omega) (by show (1 : Int) ≤ 3 ∧ (3 : Int) ≤ 6; omega) (fun y hy => by simp [Nd.kids] at hy; omega)
        have Ht := Lib.hid ht
        have H := Lib.hid (make_is _ e1 (ha.alloc (.cells #[.int .i64 (((j : Int) + 1) / 2), .int .i64 0, .int .i64 (((j : Int) + 1) / 3), .int .i64 0] 25)) Hs.out.ok (by omega))
        have Hk := Lib.hid (hk.alloc (.cells #[.int .i64 (((j : Int) + 1) / 2), .int .i64 0, .int .i64 (((j : Int) + 1) / 3), .int .i64 0] 25))
        clear hs e1 ht hk ha
        go_wp2_with fail
        refine H.out.mono ?_
        clear H
        rintro e w5 ⟨rfl, ha, hk⟩
        have Hk5 := Lib.hid (Hk.out.trans hk)
        clear hk
        go_wp2_with fail
        go_roundw
        case rel => exact ⟨j + 1, by go_num, by omega, _, Ht.out.mono (by omega), ha, Hk5.out⟩
        case measure => simp [intOf]; omega
      · obtain ⟨t, e1, ht⟩ := hs.next (x := ⟨3, 0, 0, 0, 0, 0, 0⟩) (by omega) (by decide) (fun y hy => by simp [Nd.kids] at hy; omega)
        have Ht := Lib.hid ht
        have H := Lib.hid (make_is _ e1 (ha.alloc (.cells #[.int .i64 0, .int .i64 0, .int .i64 0, .int .i64 0] 25)) Hs.out.ok (by omega))
        have Hk := Lib.hid (hk.alloc (.cells #[.int .i64 0, .int .i64 0, .int .i64 0, .int .i64 0] 25))
        clear hs e1 ht hk ha
        go_wp2_with fail
        refine H.out.mono ?_
        clear H
        rintro e w5 ⟨rfl, ha, hk⟩
        have Hk5 := Lib.hid (Hk.out.trans hk)
        clear hk
        go_wp2_with fail
        go_roundw
        case rel => exact ⟨j + 1, by go_num, by omega, _, Ht.out.mono (by omega), ha, Hk5.out⟩
        case measure => simp [intOf]; omega
    · obtain rfl : N = j := by omega
      as_aux_lemma =>
        obtain ⟨wo, rfl⟩ : ∃ wo : World, wo = wr := ⟨_, rfl⟩
        obtain ⟨b1, b2, b3, b4⟩ := pick iv N (by omega)
        obtain ⟨d1, d2, d3, d4⟩ := pick jv N (by omega)
        obtain ⟨x, hx⟩ : ∃ x, iv.tmod N % N = x - 1 := ⟨iv.tmod N % N + 1, by omega⟩
        obtain ⟨y, hy⟩ : ∃ y, jv.tmod N % N = y - 1 := ⟨jv.tmod N % N + 1, by omega⟩
        have x1 : 1 ≤ x ∧ x ≤ N := by omega
        have y1 : 1 ≤ y ∧ y ≤ N := by omega
        have hx' : 1 + (x - 1) = x := by omega
        have hy' : 1 + (y - 1) = y := by omega
        have Hx := Lib.hid (hs.live x1.1 x1.2 (by omega))
        have Hy := Lib.hid (hs.live y1.1 y1.2 (by omega))
        have Hn := Lib.hid (hs.none (by omega))
        have Hf := Lib.hid (hs.ok.fit (by omega))
        have hmm := @run_makeMap Try.prog
        have Ha := Lib.hid ha
        have Hk := Lib.hid hk
        clear hs ha hk
        go_upto_region 15 with fail
        go_region
        go_wp2_with fail
        clear hx hy hx' hy' b1 b2 b3 b4 d1 d2 d3 d4 hmm
        have wx : (Lit.int .i64 x).wf = true := WalkArith.wf_i64 (by omega)
        have wy : (Lit.int .i64 y).wf = true := WalkArith.wf_i64 (by omega)
        obtain ⟨mb, hmb⟩ : ∃ mb, wo.heap.size = mb := ⟨_, rfl⟩
        have hb1 : Below wo.heap.size wo ((wo.alloc (.map #[] 0)).alloc (.cells #[.int .i64 x] 3)).drew := (((Below.refl _ _).alloc (Nat.le_refl _) _).alloc (by simp) _).drew
        have hm1 : SMap ((wo.alloc (.map #[] 0)).alloc (.cells #[.int .i64 x] 3)).drew mb [] := by rw [← hmb]; exact (SMap.new wo).same (Below.heap_alloc _ _ _ (by simp))
        have hi1 : Ints ((wo.alloc (.map #[] 0)).alloc (.cells #[.int .i64 x] 3)).drew (.slice (some ⟨wo.heap.size + 1, 0, none⟩) 1 1) [x] := by
          have := (ints_one (w := wo.alloc (.map #[] 0)) x).below (Below.refl _ _).drew
          simpa using this
        have H := Lib.hid (reach_is (Ha.out.below hb1) Hf.out hi1 (by simp))
        have B1 := Lib.hid hb1
        have M1 := Lib.hid hm1
        have S1 := Lib.hid (show mb < ((wo.alloc (.map #[] 0)).alloc (.cells #[.int .i64 x] 3)).drew.heap.size from hm1.lt)
        clear hb1 hm1 hi1
        refine H.out.mono ?_
        clear H
        generalize ((wo.alloc (.map #[] 0)).alloc (.cells #[.int .i64 x] 3)).drew = wa at *
        rintro e w3 ⟨v1, ys1, Ko1, rfl, hl1, hk1, hasc1, hmem1, hb⟩
        have B3 := Lib.hid (B1.out.trans (hb.mono B1.out.size))
        have M3 := Lib.hid (M1.out.below hb)
        have A1 := Lib.hid hmem1
        have L1 := Lib.hid hl1
        have S3 := Lib.hid hb.size
        have N1 := Lib.hid hasc1.nodup
        have Y1 := Lib.hid (fun (x : Int) (hx : x ∈ ys1) => (show 1 ≤ x ∧ x ≤ 6000 by have := count_pos ((hmem1 x).1 hx).live; have := Hf.out.n; omega))
        have K1 := Lib.hid hk1
        clear hl1 hk1 hasc1 hmem1 hb B1 M1
        have hb4 : Below wo.heap.size wo (w3.alloc (.cells #[.int .i64 y] 3)) := B3.out.alloc B3.out.size _
        have H := Lib.hid (reach_is (Ha.out.below hb4) Hf.out (ints_one y) (by simp))
        go_wp2_with fail
        refine H.out.mono ?_
        clear H hb4
        rintro e w4 ⟨v2, ys2, Ko2, rfl, hl2, hk2, hasc2, hmem2, hb⟩
        have hb4' := ((Below.refl w3.heap.size w3).alloc (Nat.le_refl _) (.cells #[.int .i64 y] 3)).trans (hb.mono (by simp))
        have B4 := Lib.hid (B3.out.trans (hb4'.mono B3.out.size))
        have M4 := Lib.hid (M3.out.below hb4')
        have A2 := Lib.hid hmem2
        have L1' := Lib.hid (L1.out.kept (Kept.of_below hb4' Ko1))
        have Y2 := Lib.hid (fun (x : Int) (hx : x ∈ ys2) => (show 1 ≤ x ∧ x ≤ 6000 by have := count_pos ((hmem2 x).1 hx).live; have := Hf.out.n; omega))
        have N2 := Lib.hid hasc2.nodup
        have yin : y ∈ ys2 := (hmem2 y).2 (.root (by simp) Hy.out)
        have hlen2 := List.length_pos_of_mem yin
        obtain ⟨g2, c2, rfl, hc2, _, hcells2⟩ := hl2.at_ (i := 0) hlen2
        have T1 := Lib.hid (show ∀ b, Ko1 b → b < w4.heap.size from fun b hb => by have := (K1.out b hb).2; have := hb4'.size; omega)
        have T2 := Lib.hid (show wa.heap.size ≤ w4.heap.size by have := hb4'.size; have := S3.out; omega)
        have l1 : ys1.length ≤ 6000 := nodup_len 6000 ys1 N1.out Y1.out
        have l2 : ys2.length ≤ 6000 := nodup_len 6000 ys2 N2.out Y2.out
        have T3 := Lib.hid (show ys1.length + ys2.length ≤ 1000000000 by omega)
        have T4 := Lib.hid (show ∀ j, j < ys2.length → w4.cell? ((⟨g2, 0, none⟩ : Addr).add j) = some (.int .i64 (ys2.getD j 0)) from fun j hj => by
          rw [Addr.add_lit, Nat.zero_add]; exact hcells2 j hj)
        clear hb hl2 hk2 hasc2 hmem2 hb4' hcells2 L1 M3 yin
        go_wp2_with (at_builtin; refine wpList_append_ints L1'.out T1.out T2.out rfl (.tmp 80) (.tmp 84) (by rfl) (by rfl) ⟨g2, 0, none⟩ ys2.length c2 (by rfl) rfl T3.out T4.out ?_)
        intro v3 w5 K3 hp
        obtain ⟨xs, hxs⟩ : ∃ xs, ys1 ++ ys2 = xs := ⟨_, rfl⟩
        rw [hxs] at hp
        have hxl : xs.length = ys1.length + ys2.length := by rw [← hxs, List.length_append]
        obtain ⟨L, hL⟩ : ∃ L, xs.length = L := ⟨_, rfl⟩
        obtain ⟨g3, c3, rfl, hc3, hKg3, hcells3⟩ := hp.lst.at_ (i := 0) (by omega)
        have hg3 : mb < g3 ∧ g3 < w5.heap.size := by
          obtain ⟨a, c⟩ := hp.new g3 hKg3
          have := S1.out
          rcases c with c | c
          · have := (K1.out g3 c).1; omega
          · have := T2.out; omega
        have hb5 : Below wo.heap.size wo w5 := B4.out.trans (hp.below.mono (by have := B3.out.size; have := S1.out; omega))
        have hm5 : SMap w5 mb [] := M4.out.same (hp.same mb M4.out.lt fun e => by have := (K1.out mb e).1; have := S1.out; omega)
        have hxm : ∀ z, z ∈ xs ↔ Rch s [x, y] z := fun z => by rw [← hxs, List.mem_append, A1.out, A2.out, rch_pair]
        have Xm := Lib.hid hxm
        have Xr := Lib.hid (show ∀ z, z ∈ xs → 1 ≤ z ∧ z ≤ 6000 from fun z hz => by rw [← hxs] at hz; rcases List.mem_append.1 hz with h | h; exact Y1.out z h; exact Y2.out z h)
        rw [hL] at hcells3 hc3 hxl ⊢
        have HL := Lib.hid hL
        have C3 := Lib.hid hcells3
        have B5 := Lib.hid hb5
        have M5 := Lib.hid hm5
        have hL2 : L ≤ 12000 := by omega
        clear hxl l1 l2 hlen2
        clear hp hcells3 hb5 hm5 hxs hxm hL M4 B4 A1 A2 Y1 Y2 N1 N2 L1' T1 T2 T3 T4 K1
        go_wp2_with fail
        go_loopw [87] (fun i W => ∃ t : Nat, i = .int .i64 t ∧ t ≤ L ∧ ∃ zs, SMap W mb zs ∧ zs.Nodup ∧ (∀ z, z ∈ zs ↔ z ∈ xs.take t) ∧ Kept (fun b => b ≠ mb) w5 W) (fun i _ => L - (intOf i).toNat)
        case atStart => exact ⟨0, rfl, by omega, [], M5.out, List.nodup_nil, fun z => by simp, Kept.refl _ _⟩
        case round =>
          obtain ⟨t, rfl, t1, zs, hm, hnd, hz, hkp⟩ := hrel
          clear M5
          have Hm := Lib.hid hm
          have Hnd := Lib.hid hnd
          have Hz := Lib.hid hz
          have Hkp := Lib.hid hkp
          have Hzl := Lib.hid (show zs.length ≤ 1000000000 by
            have := nodup_len 6000 zs hnd fun z h => Xr.out z (List.mem_of_mem_take ((hz z).1 h))
            omega)
          clear hm hnd hz hkp
          by_cases ht : t < L
          · have hc := (Hkp.out.cell (o := t) hg3.2 (by omega)).trans (C3.out t ht)
            have hgm : xs.getD t 0 ∈ xs := by rw [List.getD_eq_getElem?_getD, List.getElem?_eq_getElem (by rw [HL.out]; exact ht)]; exact List.getElem_mem _
            have htk : xs.take (t + 1) = xs.take t ++ [xs.getD t 0] := by
              rw [List.take_add_one, List.getElem?_eq_getElem (by rw [HL.out]; exact ht), List.getD_eq_getElem?_getD, List.getElem?_eq_getElem (by rw [HL.out]; exact ht)]
              rfl
            have Htk := Lib.hid htk
            have Hgm := Lib.hid (Xr.out _ hgm)
            clear htk hgm
            generalize xs.getD t 0 = h at hc Htk Hgm
            have wh : (Lit.int .i64 h).wf = true := WalkArith.wf_i64 (by have := Hgm.out; omega)
            go_wp2_with (at_mapUpdate; refine wpList_smap_add Hm.out Hzl.out rfl _ _ _ rfl rfl h rfl rfl wh ?_)
            intro w6 hm6 hg6
            have Hm6 := Lib.hid hm6
            have Hg6 := Lib.hid hg6
            clear hm6 hg6
            go_wp2_with fail
            go_roundw
            case rel => exact ⟨t + 1, by go_num, by omega, _, Hm6.out, nodup_sadd Hnd.out, fun z => by rw [mem_sadd, Hz.out z, Htk.out, List.mem_append, List.mem_singleton]; exact or_comm, Hkp.out.grown Hg6.out fun k e => by cases e; exact .inl fun h => h rfl⟩
            case measure => simp [intOf]; omega
          · obtain rfl : L = t := by omega
            have hz2 : ∀ z, z ∈ zs ↔ Rch s [x, y] z := fun z => by rw [Hz.out z, ← HL.out, List.take_length]; exact Xm.out z
            have Hz2 := Lib.hid hz2
            have b6 : Below wo.heap.size wo wr := B5.out.trans ((Hkp.out.mono (K' := fun b => b < wo.heap.size) fun b _ hb => by show b ≠ mb; rw [← hmb]; exact Nat.ne_of_lt hb).below_of B5.out.size)
            have hb6 : Below wo.heap.size wo (wr.alloc (.cells #[.int .i64 x, .int .i64 y] 3)) := b6.alloc b6.size _
            have H := Lib.hid (reach_is (Ha.out.below hb6) Hf.out (ints_two x y) (by simp))
            have B6 := Lib.hid b6
            clear b6 hb6 hz2
            go_wp2_with fail
            refine H.out.mono ?_
            clear H
            rintro e w7 ⟨v6, ys6, Ko6, rfl, hl6, _, hasc6, hmem6, hb⟩
            have hb7 := ((Below.refl wr.heap.size wr).alloc (Nat.le_refl _) (.cells #[.int .i64 x, .int .i64 y] 3)).trans (hb.mono (by simp))
            have B7 := Lib.hid (B6.out.trans (hb7.mono B6.out.size))
            have M7 := Lib.hid (Hm.out.below hb7)
            have hz6 : ∀ z, z ∈ ys6 ↔ z ∈ zs := fun z => (hmem6 z).trans (Hz2.out z).symm
            have hlen6 : ys6.length = zs.length := same_length hasc6.nodup Hnd.out hz6
            have xin : x ∈ zs := (Hz2.out x).2 (.root (by simp) Hx.out)
            have yin : y ∈ zs := (Hz2.out y).2 (.root (by simp) Hy.out)
            have hpos : 0 < ys6.length := List.length_pos_of_mem ((hz6 x).2 xin)
            obtain ⟨g6, c6, rfl, hc6, _, hcells6⟩ := hl6.at_ (i := 0) hpos
            obtain ⟨M, hM⟩ : ∃ M, ys6.length = M := ⟨_, rfl⟩
            have hlx := M7.out.look wx
            have hly := M7.out.look wy
            rw [decide_eq_true xin] at hlx
            rw [decide_eq_true yin] at hly
            have Hlx := Lib.hid hlx
            have Hly := Lib.hid hly
            have HlM := Lib.hid (hlen6.symm.trans hM)
            have C6 := Lib.hid hcells6
            have Z6 := Lib.hid hz6
            have S6 := Lib.hid hasc6
            have HM := Lib.hid hM
            have hM2 : M ≤ 6000 := by
              rw [← hM]
              exact nodup_len 6000 ys6 hasc6.nodup fun z h => Xr.out z ((Xm.out z).2 ((hmem6 z).1 h))
            rw [hM] at hc6 hpos ⊢
            clear hlx hly hcells6 hz6 hasc6 hmem6 hlen6 xin yin hM hb hb7 hl6
            go_wp2_with fail
            go_loopw [101] (fun i W => ∃ t : Nat, i = .int .i64 t ∧ t ≤ M ∧ W = w7) (fun i _ => M - (intOf i).toNat)
            case atStart => exact ⟨0, rfl, by omega, rfl⟩
            case round =>
              obtain ⟨t, rfl, t2, rfl⟩ := hrel
              by_cases ht2 : t < M
              · have hc := C6.out t (by rw [HM.out]; exact ht2)
                have hin : ys6.getD t 0 ∈ ys6 := by rw [List.getD_eq_getElem?_getD, List.getElem?_eq_getElem (by rw [HM.out]; exact ht2)]; exact List.getElem_mem _
                have hr := Xr.out _ ((Xm.out _).2 ((Hz2.out _).1 ((Z6.out _).1 hin)))
                have hlk := M7.out.look (k := ys6.getD t 0) (WalkArith.wf_i64 (by omega))
                rw [decide_eq_true ((Z6.out _).1 hin)] at hlk
                by_cases t0 : t = 0
                · subst t0
                  clear hin
                  generalize ys6.getD 0 0 = h at *
                  go_wp2_with fail
                  go_roundw
                  case rel => exact ⟨1, by go_num, by omega, trivial⟩
                  case measure => simp [intOf]; omega
                · obtain ⟨t', rfl⟩ : ∃ t', t = t' + 1 := ⟨t - 1, by omega⟩
                  have hc' := C6.out t' (by rw [HM.out]; omega)
                  have hlt' : ys6.getD t' 0 < ys6.getD (t' + 1) 0 := by
                    have e1 : t' < ys6.length := by rw [HM.out]; omega
                    have e2 : t' + 1 < ys6.length := by rw [HM.out]; omega
                    have := List.pairwise_iff_getElem.1 S6.out t' (t' + 1) e1 e2 (by omega)
                    rw [List.getD_eq_getElem?_getD, List.getElem?_eq_getElem e1, List.getD_eq_getElem?_getD, List.getElem?_eq_getElem e2]
                    exact this
                  clear hin
                  generalize ys6.getD (t' + 1) 0 = h at *
                  generalize ys6.getD t' 0 = h' at *
                  go_wp2_with fail
                  go_roundw
                  case rel => exact ⟨t' + 1 + 1, by go_num, by omega, trivial⟩
                  case measure => simp [intOf]; omega
              · obtain rfl : M = t := by omega
                have hlx := Hlx.out
                have hly := Hly.out
                have hb8 : Below wo.heap.size wo (wr.alloc (.cells #[.int .i64 0, .int .i64 ((N : Int) + 1), .int .i64 (-1)] 3)) := B7.out.alloc B7.out.size _
                have H := Lib.hid (reach_is (Ha.out.below hb8) Hf.out (ints_three 0 ((N : Int) + 1) (-1)) (by simp))
                have B8 := Lib.hid hb8
                clear hb8
                go_wp2_with (at_len; refine wpList_smap_len M7.out rfl _ rfl rfl ?_; rw [HlM.out])
                refine H.out.mono ?_
                clear H
                rintro e w9 ⟨v8, ys8, Ko8, rfl, hl8, _, hasc8, hmem8, hb⟩
                have hnil : ys8 = [] := by
                  cases ys8 with
                  | nil => rfl
                  | cons z r => exact absurd ((hmem8 z).1 (by simp)) (rch_none Hn.out z)
                subst hnil
                obtain ⟨av, cv, rfl⟩ := hl8.slice
                have B9 := Lib.hid (B8.out.trans (hb.mono B8.out.size))
                clear hl8 hasc8 hmem8 hb
                go_wp2_with fail
                go_ret
                exact ⟨rfl, (Hk.out.trans (Kept.of_below B9.out K)).below fun b hb => by rw [HK.out]; exact hb⟩

set_option maxRecDepth 100000 in
theorem lifted (os : Os) (started : os.Started) (H : Type) (enc : TypeId × Value → H) :
    ReturnsInHanded {} Try.checked os 3 .any (Rows.arenaReachSpec.pre6 enc Try.prog Try.f3 Rows.arenaReachRow.domain false) (Rows.arenaReachSpec.post enc Try.prog Try.f3 false true false false) := by
  refine returnsInHanded_of_change (C := Try.checked) own_ started (by kernel_rfl) Try.func3
    (ChangeSpec.witness6 (enc := enc) (C := Try.checked) false ⟨#[], #[.int .i64 0, .int .i64 0, .int .i64 0], []⟩ 8 (by kernel_rfl) (by kernel_rfl) (by kernel_rfl) (by kernel_rfl)) ?_
  intro W base args ds gs before hval0 hW _ _
  have hval : ∀ (j : Nat) t v, Try.f3.params[j]? = some t → args[j]? = some v → Value.okWide Try.prog W .any base t v := hval0
  have hW' := hW
  obtain ⟨p, q, hA0, hV, rfl, hfz, hnd⟩ := hW
  have hA : DataW.TrodAll enc Try.prog W 0 (fun _ => true) true Try.f3.params.toList args.toList ds p := hA0
  rw [Try.params3] at hA hval
  obtain ⟨v0, vs0, d0, ds0, p0, q0, hargs, rfl, rfl, h0, r0⟩ := trodAll_cons hA
  obtain ⟨v1, vs1, d1, ds1, p1, q1, rfl, rfl, rfl, h1, r1⟩ := trodAll_cons r0
  obtain ⟨v2, vs2, d2, ds2, p2, q2, rfl, rfl, rfl, h2, r2⟩ := trodAll_cons r1
  obtain ⟨rfl, rfl, rfl⟩ := trodAll_nil r2
  obtain rfl : args = #[v0, v1, v2] := by cases args; simp_all
  obtain ⟨a0, rfl, rfl, rfl, w0⟩ := open_int Try.underlying3 (hval 0 3 v0 rfl rfl) h0
  obtain ⟨a1, rfl, rfl, rfl, w1⟩ := open_int Try.underlying3 (hval 1 3 v1 rfl rfl) h1
  obtain ⟨a2, rfl, rfl, rfl, w2⟩ := open_int Try.underlying3 (hval 2 3 v2 rfl rfl) h2
  clear hA0 hval0
  refine (walk a0 w0 a1 w1 a2 w2 W ).mono fun e W' ⟨he, hg⟩ => ?_
  subst he
  exact ⟨_, rfl, law_post laid_ (by kernel_rfl) rfl hW' hg rfl Try.underlying4 ⟨rfl, rfl, rfl⟩⟩

theorem over : Rows.arenaReachRow.holds Try.pinned (OpenSpec.ofChange Rows.arenaReachSpec) :=
  OpenClaim.holds_of_wide 3 Try.f3 rfl rfl rfl rfl rfl rfl rfl ⟨rfl, rfl, rfl, rfl, rfl⟩ rfl rfl rfl rfl rfl (by kernel_rfl) Try.func3 (by kernel_rfl)
    (of_decide_eq_true (by kernel_rfl)) (by unfold Func.isWrapper; first | (rw [if_pos (by decide +kernel)]; kernel_rfl) | (rw [if_neg (by decide +kernel)]; exact ⟨rfl, rfl⟩))
    (fun os started H enc _ => lifted os started H enc)

theorem proved : Rows.ArenaReachSaid :=
  over
#print axioms proved
end Go.Proofs.Ytjndhjmbdhfclaa.arenaReach
