/- SweepDrops holds: when all that somebody has is dropped, and freed, nothing is live; nothing leaks on the way. No condition. -/
import Derived.Test.YtjndhjmbdhfclaaSw11
import Derived.Test.YtjndhjmbdhfclaaArg
import Derived.Test.YtjndhjmbdhfclaaLaw
import Derived.Deep.LoopGhost
namespace Go.Proofs.Ytjndhjmbdhfclaa.sweepDrops
set_option maxRecDepth 100000
open Go.ChangeShapes Go.WideShapes Go.ChangeAt Go.RowKit
set_option linter.unusedVariables false
set_option maxRecDepth 100000 in
set_option maxHeartbeats 16000000 in
theorem walk (n : Int) (w0 : (Lit.int .i64 n).wf = true) (vx : Value) (xk : List Int) (w : World) (hx : IntsArg w vx xk) :
    Calls Try.prog 10 #[.int .i64 n, vx] w fun e w' => e = .returned (.bool true) ∧ Below w.heap.size w w' := by
  have HA := Lib.hid alive19
  obtain ⟨ax, cx, hv⟩ := hx.val
  have HX := Lib.hid hx
  obtain ⟨L, hL⟩ : ∃ L, xk.length = L := ⟨_, rfl⟩
  rw [hL] at hv
  subst hv
  have HL := Lib.hid hL
  have hlen : L ≤ maxLen := hL ▸ hx.len
  have hlen2 : L ≤ 9223372036854775807 := hlen
  clear hx hL hlen
  by_cases h1 : n < 1
  · skip
    go_enter Try.func10, Try.ntmps10
    go_wp2_with fail
    refine (HA.out w).mono ?_
    rintro e w1 ⟨rfl, hb⟩
    go_wp2_with fail
    go_ret
    exact ⟨rfl, hb⟩
  by_cases h2 : 30 < n
  · skip
    go_enter Try.func10, Try.ntmps10
    go_wp2_with fail
    refine (HA.out w).mono ?_
    rintro e w1 ⟨rfl, hb⟩
    go_wp2_with fail
    go_ret
    exact ⟨rfl, hb⟩
  by_cases h3 : 40 < L
  · have h3' : (40 : Int) < (L : Int) := by omega
    clear h3
    go_enter Try.func10, Try.ntmps10
    go_wp2_with fail
    refine (HA.out w).mono ?_
    rintro e w1 ⟨rfl, hb⟩
    go_wp2_with fail
    go_ret
    exact ⟨rfl, hb⟩
  have h3' : ¬ (40 : Int) < (L : Int) := by omega
  clear h3
  obtain ⟨N, rfl⟩ := Int.eq_ofNat_of_zero_le (show 0 ≤ n by omega)
  go_enter Try.func10, Try.ntmps10
  go_wp2_with fail
  refine (HA.out w).mono ?_
  rintro e w1 ⟨rfl, hb⟩
  have HB := Lib.hid (show 1 ≤ N ∧ N ≤ 30 ∧ L ≤ 40 by omega)
  go_wp2_with fail
  refine (new_yes 30 _ (by decide) (by decide)).mono ?_
  rintro e w2 ⟨p, rfl, hb2, ha⟩
  have hbw := hb.trans (hb2.mono hb.size)
  have hd0 : Dr w p (fun b => b < w.heap.size) (fun _ => False) (upto 0) (Ar.new 30) (4 * ((0 : Nat) : Int)) (.slice none 0 0) w2 :=
    ⟨ha _ (fun b h => by have := hb.size; omega), Lst.nil _ _ _, fun b h => h.elim, rfl, ok_new (by decide) (by decide), acc_new 30, led_new 30, fun x hx => (by cases hx), fun x h => h, hbw⟩
  have D0 := Lib.hid hd0
  clear hb hb2 ha hbw hd0 h1 h2 h3' hlen2
  go_wp2_with fail
  go_loopw [6, 7] (fun v k W => ∃ (j : Nat) (K Kl : Nat → Prop) (s : Ar), k = .int .i64 (j : Int) ∧ j ≤ N ∧ Dr w p K Kl (upto j) s (4 * (j : Nat)) v W ∧ ∀ i, 1 ≤ i → i ≤ 30 → s.u i = decide (i ≤ j)) (fun _ k _ => N - (intOf k).toNat)
  case atStart => exact ⟨0, _, _, _, rfl, by omega, D0.out, fun i i1 i2 => by show false = _; simp; omega⟩
  case round =>
    obtain ⟨j, K, Kl, s, rfl, j1, hd, hu⟩ := hrel
    have D := Lib.hid hd
    have Hu := Lib.hid hu
    clear hd hu D0
    by_cases hj : j < N
    · obtain ⟨wc, rfl⟩ : ∃ wo : World, wo = wr := ⟨_, rfl⟩
      have HJ := Lib.hid (show j < 30 by have := HB.out; omega)
      have hjI : (j : Int) ≤ 30 := by have := HB.out; omega
      obtain ⟨av, cv, hsv⟩ := D.out.lst.slice
      rw [upto_len] at hsv
      subst hsv
      go_wp2_with fail
      have hX0 : XBox wc wc.heap.size 2 (upto j) (wc.alloc (.cells #[.int .i64 2, .int .i64 0, .int .i64 0, .int .i64 0, .int .i64 0, .int .u64 0, .int .u64 0] 31)) :=
        ⟨0, 0, 0, 0, heap_alloc_new _ _, (Below.refl _ _).alloc (Nat.le_refl _) _, .inl rfl, .inl rfl, .inl rfl, .inl rfl⟩
      generalize wc.alloc (.cells #[.int .i64 2, .int .i64 0, .int .i64 0, .int .i64 0, .int .i64 0, .int .u64 0, .int .u64 0] 31) = w4 at *
      obtain ⟨z2, hz2'⟩ : ∃ z2, wc.heap.size = z2 := ⟨_, rfl⟩
      rw [hz2'] at hX0 ⊢
      have hz2 := Lib.hid hz2'
      clear hz2'
      have HX0 := Lib.hid hX0
      clear hX0
      go_loopw [38] (fun i W => ∃ t : Nat, i = .int .i64 t ∧ t ≤ 4 ∧ XBox wc z2 2 (upto j) W) (fun i _ => 4 - (intOf i).toNat)
      case atStart => exact ⟨0, rfl, by omega, HX0.out⟩
      case round =>
        obtain ⟨t, rfl, t1, hX⟩ := hrel
        have HXB := Lib.hid hX
        clear hX HX0
        by_cases ht : t < 4
        · have htI : (t : Int) < 4 := by omega
          have Ht := Lib.hid ht
          clear ht t1
          by_cases hlt : 4 * (j : Int) + (t : Int) < (L : Int)
          · have hd1 : decide (4 * (j : Int) + (t : Int) < (L : Int)) = true := decide_eq_true hlt
            by_cases hj0 : j = 0
            · have hd2 : decide ((0 : Int) < (j : Int)) = false := decide_eq_false (by omega)
              have hd3 : decide (0 < j) = false := decide_eq_false (by omega)
              clear hj0
              go_wp2_with fail
              go_roundw
              case rel => exact ⟨t + 1, by go_num, by have := Ht.out; omega, HXB.out⟩
              case measure => simp [intOf]; omega
            · have hd2 : decide ((0 : Int) < (j : Int)) = true := decide_eq_true (by omega)
              obtain ⟨bk, ok, ck, e1, h1, h2, h3⟩ := HX.out.cell (4 * j + t) (by have := HL.out; omega)
              rw [HL.out] at e1 h2 h3
              injection e1 with e1 _ e3
              subst e1 e3
              have hbl := HXB.out.bel
              have hcy := (D.out.bel.trans (hbl.mono D.out.bel.size)).cell (p := ⟨bk, ok + (4 * j + t), none⟩) h1
              rw [h3 (4 * j + t) (by omega)] at hcy
              have en : (4 * (j : Int) + (t : Int)).toNat = 4 * j + t := by omega
              have hcc : wr.cell? ⟨bk, ok + (4 * (j : Int) + (t : Int)).toNat, none⟩ = some (.int .i64 (xk.getD (4 * j + t) 0)) := by rw [en]; exact hcy
              have HXW := Lib.hid (HX.out.wf _ (getD_mem xk (t := 4 * j + t) (by rw [HL.out]; omega)))
              have Hen := Lib.hid en
              have hi0 : (0 : Int) ≤ 4 * (j : Int) + (t : Int) := by omega
              clear h1 h3 hbl en
              generalize xk.getD (4 * j + t) 0 = y at *
              have e1 := i64_and1 y
              by_cases hq1 : y % 2 = 1
              · have hq1' : (y % 2 == 1) = true := by simpa using hq1
                have Hq1 := Lib.hid hq1
                clear hq1
                obtain ⟨b1, b2, b3, b4⟩ := pick y j (by omega)
                obtain ⟨ov, hov⟩ := HXB.out.old Ht.out
                have hfz := HXB.out.fz (1 + t)
                have Hm := Lib.hid (show (1 + y.tmod j % j) ∈ upto j from mem_upto.2 (by omega))
                go_wp2_with fail
                go_roundw
                case rel => exact ⟨t + 1, by go_num, by have := Ht.out; omega, HXB.out.set (by rw [hz2.out]; exact Nat.le_refl _) Ht.out Hm.out⟩
                case measure => simp [intOf]; omega
              · have hq1' : (y % 2 == 1) = false := by simpa using hq1
                go_wp2_with fail
                go_roundw
                case rel => exact ⟨t + 1, by go_num, by have := Ht.out; omega, HXB.out⟩
                case measure => simp [intOf]; omega
          · have hd1 : decide (4 * (j : Int) + (t : Int) < (L : Int)) = false := decide_eq_false hlt
            go_wp2_with fail
            go_roundw
            case rel => exact ⟨t + 1, by go_num, by have := Ht.out; omega, HXB.out⟩
            case measure => simp [intOf]; omega
        · obtain rfl : t = 4 := by omega
          obtain ⟨k0, k1, k2, k3, hb, hbel, a0, a1, a2, a3⟩ := HXB.out
          have d0 : wr.cell? ⟨z2, 0, none⟩ = some (.int .i64 2) := cell_of_row _ _ _ _ _ _ hb
          have d1 : wr.cell? ⟨z2, 1, none⟩ = some (.int .i64 k0) := cell_of_row _ _ _ _ _ _ hb
          have d2 : wr.cell? ⟨z2, 2, none⟩ = some (.int .i64 k1) := cell_of_row _ _ _ _ _ _ hb
          have d3 : wr.cell? ⟨z2, 3, none⟩ = some (.int .i64 k2) := cell_of_row _ _ _ _ _ _ hb
          have d4 : wr.cell? ⟨z2, 4, none⟩ = some (.int .i64 k3) := cell_of_row _ _ _ _ _ _ hb
          have d5 : wr.cell? ⟨z2, 5, none⟩ = some (.int .u64 0) := cell_of_row _ _ _ _ _ _ hb
          have d6 : wr.cell? ⟨z2, 6, none⟩ = some (.int .u64 0) := cell_of_row _ _ _ _ _ _ hb
          have D2 := Lib.hid (D.out.below hbel)
          have hkids : ∀ x, x ∈ (⟨2, k0, k1, k2, k3, 0, 0⟩ : Nd).kids → x = 0 ∨ x ∈ upto j := by
            intro x hx
            simp only [Nd.kids, List.mem_cons, List.not_mem_nil, or_false] at hx
            rcases hx with rfl | rfl | rfl | rfl
            · exact a0
            · exact a1
            · exact a2
            · exact a3
          obtain ⟨s', hm, hn', ok', ac', le', hu'⟩ := D2.out.make (x := ⟨2, k0, k1, k2, k3, 0, 0⟩) Hu.out HJ.out (by show (1 : Int) ≤ 2 ∧ (2 : Int) ≤ 6; omega) hkids
          have Hn' := Lib.hid hn'
          have Ok' := Lib.hid ok'
          have Ac' := Lib.hid ac'
          have Le' := Lib.hid le'
          have Hu' := Lib.hid hu'
          have H := Lib.hid (make_is _ hm D2.out.ars D2.out.ok (by have := HJ.out; omega))
          clear hm hn' ok' ac' le' hu' hkids a0 a1 a2 a3 hb hbel D HXB t1 ht
          go_wp2_with fail
          refine H.out.mono ?_
          clear H d0 d1 d2 d3 d4 d5 d6
          rintro e w5 ⟨rfl, ha, hk⟩
          obtain ⟨q1, q2, q3, q4⟩ := D2.out.push (W3 := w5) (y := (j : Int) + 1) ha hk Hn'.out Ok'.out Ac'.out Le'.out (by have := HJ.out; omega) (.cells #[.int .i64 ((j : Int) + 1)] 3)
          have Q1 := Lib.hid q1
          have Q2 := Lib.hid q2
          have Q3 := Lib.hid q3
          have Ha := Lib.hid ha
          have Hk := Lib.hid hk
          have Ln := Lib.hid (show (upto j).length + 1 ≤ 1000000000 by rw [upto_len]; have := HJ.out; omega)
          clear q1 q2 q3 q4 ha hk
          go_wp2_with (at_builtin; refine wpList_append_lst Q1.out Q2.out Q3.out Ln.out rfl (.tmp 90) (.tmp 92) rfl rfl ⟨w5.heap.size, 0, none⟩ ((j : Int) + 1) 1 rfl (cell_new rfl rfl) ?_)
          intro v' w7 K2 hp
          have HP := Lib.hid hp
          clear hp
          go_wp2_with fail
          go_roundw
          case rel =>
            have hd := (D2.out.push (W3 := w7) (y := (j : Int) + 1) Ha.out Hk.out Hn'.out Ok'.out Ac'.out Le'.out (by have := HJ.out; omega) (.cells #[.int .i64 ((j : Int) + 1)] 3)).2.2.2 _ _ HP.out
            rw [← upto_succ, show (4 * ((j : Nat) : Int) + 4) = 4 * ((j + 1 : Nat) : Int) by omega] at hd
            exact ⟨j + 1, _, _, s', by go_num, by omega, hd, Hu'.out⟩
          case measure => simp [intOf]; omega
    · obtain rfl : N = j := by omega
      have HN := Lib.hid (show 1 ≤ N ∧ N ≤ 30 from ⟨HB.out.1, HB.out.2.1⟩)
      clear hj j1
      go_wp2_with fail
      go_loopg [6] N (fun k v W => ∃ (xs : List Int) (K Kl : Nat → Prop) (s : Ar), Dr w p K Kl xs s (4 * (N : Nat)) v W ∧ xs.length = k ∧ k ≤ N)
      case atStart => exact ⟨_, _, _, _, D.out, upto_len N, Nat.le_refl _⟩
      case round =>
        obtain ⟨xs, K, Kl, s, hd, hxl, hk1⟩ := hrel
        have D := Lib.hid hd
        have Hxl := Lib.hid hxl
        have Hk1 := Lib.hid hk1
        clear hd hxl hk1 Hu
        cases xs with
        | nil =>
          obtain ⟨av, cv, hsv⟩ := D.out.lst.slice
          subst hsv
          obtain ⟨s1, n1, hwk, hn1, ok1, ac1, le1⟩ := D.out.work 100
          have hb100 : s.busy ≤ (100 : Nat) := by have := busy_le D.out.ok; rw [D.out.n] at this; omega
          have hw1 : s1.wt = [] := by have := work_done 100 s D.out.ok hb100; rw [hwk] at this; exact this
          have H1 := Lib.hid (clean_is (s' := s1) (n := n1) (m := (n1 : Int)) 100 hwk rfl D.out.ars D.out.ok (by have := HN.out; omega) (by decide))
          have Hn1 := Lib.hid hn1
          have Ok1 := Lib.hid ok1
          have Ac1 := Lib.hid ac1
          have Le1 := Lib.hid le1
          have Hw1 := Lib.hid hw1
          clear hwk hn1 ok1 ac1 le1 hw1 hb100
          go_wp2_with fail
          refine H1.out.mono ?_
          clear H1
          rintro e w3 ⟨rfl, ha, hk⟩
          have D3 := Lib.hid (D.out.arena ha hk Hn1.out Ok1.out Ac1.out Le1.out)
          have Hbz := Lib.hid (led_busy D3.out.led D3.out.ok D3.out.acc (fun _ _ => rfl) Hw1.out)
          have hzero : ∀ x : Int, s1.count x = 0 := fun x => by
            by_cases e : s1.count x = 0
            · exact e
            · obtain ⟨x1, x2, x3⟩ := count_pos e
              have := D3.out.ok.fr x.toNat (led_empty D3.out.led D3.out.ok D3.out.acc (fun _ _ => rfl) Hw1.out x.toNat)
              exact absurd (x3.trans this) e
          have Hlv := Lib.hid (live_none hzero)
          have H := Lib.hid (live_is D3.out.ars (D3.out.ok.fit (by have := HN.out; omega)))
          clear ha hk D hzero
          go_wp2_with fail
          refine H.out.mono ?_
          clear H
          rintro e w4 ⟨v4, K4, rfl, hl4, _, hb4⟩
          rw [Hlv.out] at hl4
          obtain ⟨a4, c4, rfl⟩ := hl4.slice
          have D4 := Lib.hid (D3.out.below hb4)
          have H := Lib.hid (used_is Hbz.out D4.out.ars)
          clear hl4 hb4 D3
          go_wp2_with fail
          refine H.out.mono ?_
          clear H
          rintro e w' ⟨rfl, rfl⟩
          have H := Lib.hid (audit_w (v := .slice none 0 0) (b := true) (held := []) D4.out.audit D4.out.ars D4.out.ok (by have := HN.out; omega) D4.out.acc (.inl ⟨rfl, rfl⟩) (by simp) (fun x hx => by cases hx))
          go_wp2_with fail
          refine H.out.mono ?_
          clear H
          rintro e w5 ⟨rfl, hb5⟩
          have Hfin := Lib.hid (D4.out.below hb5).bel
          clear hb5 D4
          go_wp2_with fail
          go_ret
          exact ⟨rfl, Hfin.out⟩
        | cons y ys =>
          have hyr := D.out.rng y (by simp)
          obtain ⟨s', hdr, hn', ok', ac', le'⟩ := D.out.drop
          obtain ⟨g, cp, hsl, hcp, hKg, hcells⟩ := D.out.lst.at_ (i := 0) (by simp)
          subst hsl
          have HC := Lib.hid hcells
          have Hdr := Lib.hid hdr
          have Hn' := Lib.hid hn'
          have Ok' := Lib.hid ok'
          have Ac' := Lib.hid ac'
          have Le' := Lib.hid le'
          have Hyr := Lib.hid hyr
          have hL8 : (y :: ys).length ≤ 30 := by have := Hxl.out; have := Hk1.out; have := HN.out; omega
          have HL8 := Lib.hid hL8
          have hg0 : wr.cell? ⟨g, 0, none⟩ = some (.int .i64 y) := HC.out 0 (by simp)
          have HG0 := Lib.hid hg0
          have h1 := audit_w (b := true) (held := y :: ys) D.out.audit D.out.ars D.out.ok (by have := HN.out; omega) D.out.acc D.out.lst.ints (by omega) (fun x hx => by have := D.out.rng x hx; omega)
          obtain ⟨l, hl⟩ : ∃ l, ys.length = l := ⟨_, rfl⟩
          have HLl := Lib.hid hl
          have hlen1 : (y :: ys).length = l + 1 := by simp [hl]
          have HLl1 := Lib.hid hlen1
          have hcp1 : l + 1 ≤ cp := by rw [← hlen1]; exact hcp
          rw [hlen1] at h1 ⊢
          have H1 := Lib.hid h1
          have hl30 : l ≤ 30 := by omega
          have Hl30 := Lib.hid hl30
          clear hcells hdr hn' ok' ac' le' hyr hL8 hl hlen1 h1 hcp hg0 hl30
          go_wp2_with fail
          refine H1.out.mono ?_
          clear H1
          rintro e w3 ⟨rfl, hb3⟩
          have D3 := Lib.hid (D.out.below hb3)
          have h2 := leaks_is (held := y :: ys) D3.out.ars (D3.out.ok.fit (by have := HN.out; omega)) (by rw [D3.out.n]; decide) D3.out.lst.ints (by have := HL8.out; omega)
          rw [HLl1.out] at h2
          have H2 := Lib.hid h2
          have hg3 := (hb3.cell (p := ⟨g, 0, none⟩) (cells_lt HG0.out)).trans HG0.out
          have HG3 := Lib.hid hg3
          clear h2 hg3 hb3 HG0 D HC
          go_wp2_with fail
          refine H2.out.mono ?_
          clear H2
          rintro e w4 ⟨v4, zs, K4, rfl, hl4, _, hz4, hb4⟩
          rw [no_leaks D3.out.ok D3.out.acc D3.out.led hz4] at hl4
          obtain ⟨a4, c4, rfl⟩ := hl4.slice
          have D4 := Lib.hid (D3.out.below hb4)
          have hg4 := (hb4.cell (p := ⟨g, 0, none⟩) (cells_lt HG3.out)).trans HG3.out
          have H5 := Lib.hid (drop_is y Hdr.out D4.out.ars (D4.out.ok.fit (by have := HN.out; omega)))
          clear hl4 hz4 hb4 HG3 D3
          go_wp2_with fail
          refine H5.out.mono ?_
          clear H5 hg4
          rintro e w5 ⟨rfl, ha, hk⟩
          have Ha := Lib.hid ha
          have Hk := Lib.hid hk
          have hl5 := D4.out.lst.kept (hk.mono fun x _ hx => D4.out.sub x hx)
          obtain ⟨g', cp', hsl', hcp', hKg', hcells'⟩ := hl5.at_ (i := 0) (by simp)
          have hgg : g = g' := by injection hsl' with e1; injection e1 with e1; injection e1
          have hcc' : cp = cp' := by injection hsl'
          subst hgg hcc'
          have hgl : g < w5.heap.size := cells_lt (hcells' 0 (by simp))
          have hI1 : Ints w5 (.slice (some ⟨g, 1, none⟩) l (cp - 1)) ys := by
            rw [← HLl.out]
            refine .inr ⟨g, 1, cp - 1, rfl, hgl, by have := HLl.out; omega, fun j hj => ?_⟩
            rw [hcells' (1 + j) (by simp; omega), Nat.add_comm 1 j]
            rfl
          have hI0 : cp = 1 → Ints w5 (.slice (some ⟨g, 0, none⟩) l (cp - 1)) ys := fun e => by
            have hy0 : ys = [] := List.length_eq_zero_iff.1 (by have := HLl.out; omega)
            rw [← HLl.out, hy0]
            exact .inr ⟨g, 0, cp - 1, rfl, hgl, by simp, fun j hj => by cases hj⟩
          have HI1 := Lib.hid hI1
          have HI0 := Lib.hid hI0
          clear ha hk hl5 hsl' hcp' hKg' hcells' hgl hI1 hI0
          have Lny := Lib.hid (show ([] : List Int).length + ys.length ≤ 1000000000 by have := HLl.out; have := Hl30.out; simp; omega)
          by_cases hc1 : cp = 1
          · have hy0 : ys = [] := List.length_eq_zero_iff.1 (by have := HLl.out; omega)
            have hp' : PushedS w5 w5 w5.heap.size (fun _ => False) (fun _ => False) (.slice none 0 0) ys := ⟨by rw [hy0]; exact Lst.nil _ _ _, fun b h => h, fun b h => h.elim, Nat.le_refl _, fun _ _ _ => rfl, Below.refl _ _⟩
            have Hy0 := Lib.hid hy0
            clear hy0
            have hl0 : l = 0 := by omega
            subst hl0 hc1
            clear HI0 HI1
            have D6 := Lib.hid (D4.out.cut Ha.out Hk.out Hn'.out Ok'.out Ac'.out Le'.out hp')
            clear hp'
            obtain ⟨s7, n7, hwk, hn7, ok7, ac7, le7⟩ := D6.out.work 2
            have H7 := Lib.hid (clean_is (s' := s7) (n := n7) (m := (n7 : Int)) 2 hwk rfl D6.out.ars D6.out.ok (by have := HN.out; omega) (by decide))
            have Hn7 := Lib.hid hn7
            have Ok7 := Lib.hid ok7
            have Ac7 := Lib.hid ac7
            have Le7 := Lib.hid le7
            clear hwk hn7 ok7 ac7 le7
            go_wp2_with fail
            refine H7.out.mono ?_
            clear H7
            rintro e w8 ⟨rfl, ha8, hk8⟩
            have D8 := Lib.hid (D6.out.arena ha8 hk8 Hn7.out Ok7.out Ac7.out Le7.out)
            clear ha8 hk8
            go_wp2_with fail
            go_roundg (gk - 1)
            case measure => have := Hxl.out; simp at this; omega
            case rel => exact ⟨ys, _, _, s7, D8.out, by have := Hxl.out; simp at this; omega, by have := Hk1.out; omega⟩
          · clear HI0
            go_wp2_with (at_builtin; refine wpList_append_any (Lst.nil w5 w5.heap.size (fun _ => False)) (fun b h => h.elim) (Nat.le_refl _) HI1.out Lny.out rfl (.const (.slice none 0 0)) (.tmp 117) (by rfl) (by rfl) (by rfl) ?_)
            intro v' w6 Kr hp
            have hp' : PushedS w5 w6 w5.heap.size (fun _ => False) Kr v' ys := hp
            have D6 := Lib.hid (D4.out.cut Ha.out Hk.out Hn'.out Ok'.out Ac'.out Le'.out hp')
            clear hp hp'
            obtain ⟨s7, n7, hwk, hn7, ok7, ac7, le7⟩ := D6.out.work 2
            have H7 := Lib.hid (clean_is (s' := s7) (n := n7) (m := (n7 : Int)) 2 hwk rfl D6.out.ars D6.out.ok (by have := HN.out; omega) (by decide))
            have Hn7 := Lib.hid hn7
            have Ok7 := Lib.hid ok7
            have Ac7 := Lib.hid ac7
            have Le7 := Lib.hid le7
            clear hwk hn7 ok7 ac7 le7
            go_wp2_with fail
            refine H7.out.mono ?_
            clear H7
            rintro e w8 ⟨rfl, ha8, hk8⟩
            have D8 := Lib.hid (D6.out.arena ha8 hk8 Hn7.out Ok7.out Ac7.out Le7.out)
            clear ha8 hk8
            go_wp2_with fail
            go_roundg (gk - 1)
            case measure => have := Hxl.out; simp at this; omega
            case rel => exact ⟨ys, _, _, s7, D8.out, by have := Hxl.out; simp at this; omega, by have := Hk1.out; omega⟩

set_option maxRecDepth 100000 in
theorem lifted (os : Os) (started : os.Started) (H : Type) (enc : TypeId × Value → H) :
    ReturnsInHanded {} Try.checked os 10 .any (Rows.sweepDropsSpec.pre6 enc Try.prog Try.f10 Rows.sweepDropsRow.domain false) (Rows.sweepDropsSpec.post enc Try.prog Try.f10 false true false false) := by
  refine returnsInHanded_of_change (C := Try.checked) own_ started (by kernel_rfl) Try.func10
    (ChangeSpec.witness6 (enc := enc) (C := Try.checked) false ⟨#[], #[.int .i64 0, .slice none 0 0], []⟩ 8 (by kernel_rfl) (by kernel_rfl) (by kernel_rfl) (by kernel_rfl)) ?_
  intro W base args ds gs before hval0 hW _ _
  have hval : ∀ (j : Nat) t v, Try.f10.params[j]? = some t → args[j]? = some v → Value.okWide Try.prog W .any base t v := hval0
  have hW' := hW
  obtain ⟨p, q, hA0, hV, rfl, hfz, hnd⟩ := hW
  have hA : DataW.TrodAll enc Try.prog W 0 (fun _ => true) true Try.f10.params.toList args.toList ds p := hA0
  rw [Try.params10] at hA hval
  obtain ⟨v0, vs0, d0, ds0, p0, q0, hargs, rfl, rfl, h0, r0⟩ := trodAll_cons hA
  obtain ⟨v1, vs1, d1, ds1, p1, q1, rfl, rfl, rfl, h1, r1⟩ := trodAll_cons r0
  obtain ⟨rfl, rfl, rfl⟩ := trodAll_nil r1
  obtain rfl : args = #[v0, v1] := by cases args; simp_all
  obtain ⟨a0, rfl, rfl, rfl, w0⟩ := open_int Try.underlying3 (hval 0 3 v0 rfl rfl) h0
  obtain ⟨x1, hx1⟩ := ints_arg (hval 1 33 v1 rfl rfl) h1
  clear hA0 hval0
  refine (walk a0 w0 v1 x1 W hx1).mono fun e W' ⟨he, hg⟩ => ?_
  subst he
  exact ⟨_, rfl, law_post laid_ (by kernel_rfl) rfl hW' hg rfl Try.underlying4 ⟨rfl, rfl, rfl⟩⟩

theorem over : Rows.sweepDropsRow.holds Try.pinned (OpenSpec.ofChange Rows.sweepDropsSpec) :=
  OpenClaim.holds_of_wide 10 Try.f10 rfl rfl rfl rfl rfl rfl rfl ⟨rfl, rfl, rfl, rfl, rfl⟩ rfl rfl rfl rfl rfl (by kernel_rfl) Try.func10 (by kernel_rfl)
    (of_decide_eq_true (by kernel_rfl)) (by unfold Func.isWrapper; first | (rw [if_pos (by decide +kernel)]; kernel_rfl) | (rw [if_neg (by decide +kernel)]; exact ⟨rfl, rfl⟩))
    (fun os started H enc _ => lifted os started H enc)

theorem proved : Rows.SweepDropsSaid :=
  over
#print axioms proved
end Go.Proofs.Ytjndhjmbdhfclaa.sweepDrops
