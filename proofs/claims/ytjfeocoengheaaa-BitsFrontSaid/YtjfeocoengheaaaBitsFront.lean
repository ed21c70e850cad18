/- BitsFront holds: bits that are put in at the front only, or taken out there, leave a row that is not deep. No condition. -/
import Derived.Test.YtjfeocoengheaaaBw27
import Derived.Test.YtjfeocoengheaaaBw23
namespace Go.Proofs.Ytjfeocoengheaaa.bitsFront
set_option maxRecDepth 100000
open Go.ChangeShapes Go.WideShapes Go.ChangeAt Go.RowKit
/-- How long the row is behind k rounds. -/
def len (n k : Nat) : Nat := if k ≤ n then k else n - (k - n)
/-- The row, and none waits. -/
structure Fst (w : World) (p n k : Nat) (h : Int) (s : Ar) (W : World) : Prop where
  ars : Ars W (fun b => b < w.heap.size) p s
  bel : Below w.heap.size w W
  gd : Gd s [h]
  row : ∃ xs, Row s [h] h xs ∧ xs.length = len n k
  wt : s.wt = []
  n : s.n = 1000
  made : s.made ≤ (k * 80 : Nat)
section
variable {w W : World} {p n k : Nat} {h : Int} {s : Ar}
theorem len_le (n k : Nat) : len n k ≤ n := by unfold len; split <;> omega
theorem Fst.busy (b : Fst w p n k h s W) (hn : n ≤ 400) : s.busy ≤ 51 := by
  obtain ⟨xs, r, hl⟩ := b.row
  have := len_le n k
  obtain ⟨t, a1, a2, _, _, a5, _⟩ := r.tree
  have := nodup_sub (usedL_nodup s) (b := nods s t h) fun x hx => rch_nods a1 (used_reached b.gd b.wt hx)
  rw [nods_len] at this
  rw [b.gd.busy_is]
  omega
theorem Fst.snd (b : Fst w p n k h s W) (hk : k ≤ 800) : Snd s := b.gd.snd (by simp) (by
  have := b.made
  have := b.gd.busy_le
  omega)
theorem hi_400 {n : Nat} (hn : n ≤ 400) : hi n ≤ 7 := by
  unfold hi
  repeat' split
  all_goals omega
/-- What stays of a round: the new row, the old one dropped, what waits freed. -/
theorem Fst.round (b : Fst w p n k h s W) (hn : n ≤ 400) (hk : k ≤ 800) {s2 : Ar} {q : Int} {ys : List Bool} {c : Nat} (W2 : Went s s2 c) (g2 : Gd s2 [q, h]) (r2 : Row s2 [q, h] q ys) (hc : c ≤ 80) (hy : ys.length = len n (k + 1)) :
    ∃ (s3 s4 : Ar) (m : Nat), (h = 0 → s3 = s2) ∧ (h ≠ 0 → s2.drop h = (s3, 0)) ∧ s3.work 200 = (s4, m) ∧ Snd s2 ∧ Snd s3 ∧ ∀ W', Ars W' (fun b => b < w.heap.size) p s4 → Below w.heap.size w W' → Fst w p n (k + 1) q s4 W' := by
  have hb := b.busy hn
  have hm := b.made
  have hbl := b.gd.busy_le
  have hnn := b.n
  obtain ⟨j, k1, k2, k3⟩ := W2.made
  have n2 := W2.ext.n
  obtain ⟨xs, rx, _⟩ := b.row
  have key : ∃ s3, (h = 0 → s3 = s2) ∧ (h ≠ 0 → s2.drop h = (s3, 0)) ∧ Gd s3 [q] ∧ Row s3 [q] q ys ∧ s3.busy = s2.busy ∧ s3.made = s2.made ∧ s3.n = s2.n := by
    by_cases g0 : h = 0
    · subst g0
      refine ⟨s2, fun _ => rfl, fun e => absurd rfl e, g2.swap.unzero, ?_, rfl, rfl, rfl⟩
      obtain ⟨t, a, _, c⟩ := r2
      exact ⟨t, a, .inr (by simp), c⟩
    · obtain ⟨t, a, _⟩ := rx
      have hg1 : 1 ≤ h := by have := a.range; omega
      have hgc : s2.count h ≠ 0 := g2.live hg1 (by rw [n2]; exact a.range.2) (by simp)
      exact ⟨(s2.drop h).1, fun e => absurd e g0, fun _ => by unfold Ar.drop; rw [if_neg hgc], gd_drop g2.swap (by omega) (by rw [n2]; exact a.range.2), r2.drop h (.inr (by simp)), drop_busy s2 h, drop_made s2 h, drop_n s2 h⟩
  obtain ⟨s3, e1, e2, g3, r3, b3, m3, n3⟩ := key
  have hbl3 := g3.busy_le
  refine ⟨s3, (s3.work 200).1, (s3.work 200).2, e1, e2, rfl, g2.snd (by simp) (by omega), g3.snd (by simp) (by omega), fun W' ha hB => ⟨ha, hB, gd_work g3 200, ⟨ys, r3.work g3 200, hy⟩, work_none 200 s3 g3 (by omega), (work_nn 200 s3).trans (by omega), ?_⟩⟩
  rw [work_made]
  omega
theorem Fst.ins (b : Fst w p n k h s W) (hn : n ≤ 400) (hk : k < n) (one : Bool) : ∃ (s2 : Ar) (q : Int) (s3 s4 : Ar) (m : Nat),
    (∀ W, Ars W (fun b => b < w.heap.size) p s → Calls Try.prog 17 #[.pointer (some ⟨p, 0, none⟩), .int .i64 h, .int .i64 0, .bool one] W fun o w' => o = .returned (.tuple #[.int .i64 q, .int .i64 0]) ∧ Ars w' (fun b => b < w.heap.size) p s2 ∧ Kept (fun b => b < w.heap.size) W w') ∧
    (h = 0 → s3 = s2) ∧ (h ≠ 0 → s2.drop h = (s3, 0)) ∧ s3.work 200 = (s4, m) ∧ Snd s2 ∧ Snd s3 ∧ ∀ W', Ars W' (fun b => b < w.heap.size) p s4 → Below w.heap.size w W' → Fst w p n (k + 1) q s4 W' := by
  obtain ⟨xs, r, hl⟩ := b.row
  have hle := len_le n k
  have hb := b.busy hn
  have hm := b.made
  have hbl := b.gd.busy_le
  have hnn := b.n
  have hh := hi_400 (n := xs.length) (by omega)
  obtain ⟨s2, q, W2, g2, r2, c2⟩ := bInsert_sure (one := one) (i := 0) b.gd r (Nat.zero_le _) (by omega) (by simp) (by omega) (by omega)
  obtain ⟨s3, s4, m, h1, h2, h3, h4, h5, h6⟩ := b.round hn (by omega) W2 g2 r2 (by omega) (by
    rw [bIns_len (Nat.zero_le _), hl]
    unfold len
    rw [if_pos (by omega), if_pos (by omega)])
  exact ⟨s2, q, s3, s4, m, fun W ha => c2 ha, h1, h2, h3, h4, h5, h6⟩
theorem Fst.del (b : Fst w p n k h s W) (hn : n ≤ 400) (hk : n ≤ k) (hk2 : k < n + n) : ∃ (s2 : Ar) (q : Int) (s3 s4 : Ar) (m : Nat),
    (∀ W, Ars W (fun b => b < w.heap.size) p s → Calls Try.prog 18 #[.pointer (some ⟨p, 0, none⟩), .int .i64 h, .int .i64 0] W fun o w' => o = .returned (.tuple #[.int .i64 q, .int .i64 0]) ∧ Ars w' (fun b => b < w.heap.size) p s2 ∧ Kept (fun b => b < w.heap.size) W w') ∧
    (h = 0 → s3 = s2) ∧ (h ≠ 0 → s2.drop h = (s3, 0)) ∧ s3.work 200 = (s4, m) ∧ Snd s2 ∧ Snd s3 ∧ ∀ W', Ars W' (fun b => b < w.heap.size) p s4 → Below w.heap.size w W' → Fst w p n (k + 1) q s4 W' := by
  obtain ⟨xs, r, hl⟩ := b.row
  have hle := len_le n k
  have hb := b.busy hn
  have hm := b.made
  have hbl := b.gd.busy_le
  have hnn := b.n
  have hpos : 0 < len n k := by unfold len; split <;> omega
  obtain ⟨s2, q, W2, g2, r2, c2⟩ := bDelete_yes (i := 0) b.gd r (by omega) (by simp) (by omega) (by omega)
  obtain ⟨s3, s4, m, h1, h2, h3, h4, h5, h6⟩ := b.round hn (by omega) W2 g2 r2 (by omega) (by
    have := bDel_len (l := xs) (i := 0) (by omega)
    unfold len at hl hpos ⊢
    split at hl <;> split <;> omega)
  exact ⟨s2, q, s3, s4, m, fun W ha => c2 ha, h1, h2, h3, h4, h5, h6⟩
end
set_option maxRecDepth 100000 in
set_option maxHeartbeats 16000000 in
theorem walk (n : Int) (_w0 : (Lit.int .i64 n).wf = true) (cut : Int) (_w1 : (Lit.int .i64 cut).wf = true) (one : Bool) (w : World) :
    Calls Try.prog 9 #[.int .i64 n, .int .i64 cut, .bool one] w fun e w' => e = .returned (.bool true) ∧ Below w.heap.size w w' := by
  have HA := Lib.hid alive8
  by_cases h1 : n < 0
  · have h1' : decide (n < 0) = true := decide_eq_true h1
    go_enter Try.func9, Try.ntmps9
    go_wp2_with fail
    refine (HA.out w).mono ?_
    rintro e w1 ⟨rfl, hb⟩
    go_wp2_with fail
    go_ret
    exact ⟨rfl, hb⟩
  by_cases h2 : 400 < n
  · have h2' : decide (400 < n) = true := decide_eq_true h2
    go_enter Try.func9, Try.ntmps9
    go_wp2_with fail
    refine (HA.out w).mono ?_
    rintro e w1 ⟨rfl, hb⟩
    go_wp2_with fail
    go_ret
    exact ⟨rfl, hb⟩
  by_cases h3 : cut < 0
  · have h3' : decide (cut < 0) = true := decide_eq_true h3
    go_enter Try.func9, Try.ntmps9
    go_wp2_with fail
    refine (HA.out w).mono ?_
    rintro e w1 ⟨rfl, hb⟩
    go_wp2_with fail
    go_ret
    exact ⟨rfl, hb⟩
  by_cases h4 : n < cut
  · have h4' : decide (n < cut) = true := decide_eq_true h4
    go_enter Try.func9, Try.ntmps9
    go_wp2_with fail
    refine (HA.out w).mono ?_
    rintro e w1 ⟨rfl, hb⟩
    go_wp2_with fail
    go_ret
    exact ⟨rfl, hb⟩
  obtain ⟨N, rfl⟩ := Int.eq_ofNat_of_zero_le (show 0 ≤ n by omega)
  obtain ⟨C, rfl⟩ := Int.eq_ofNat_of_zero_le (show 0 ≤ cut by omega)
  have HN := Lib.hid (show N ≤ 400 ∧ C ≤ N by omega)
  go_enter Try.func9, Try.ntmps9
  go_wp2_with fail
  refine (HA.out w).mono ?_
  rintro e w1 ⟨rfl, hb⟩
  have Hb := Lib.hid hb
  clear hb
  go_wp2_with fail
  refine (new_yes 1000 _ (by decide) (by decide)).mono ?_
  rintro e w2 ⟨p, rfl, hb2, ha⟩
  have hd0 : Fst w p N 0 0 (Ar.new 1000) w2 := ⟨ha (fun b => b < w.heap.size) (fun b hb => by have := Hb.out.size; omega), Hb.out.trans (hb2.mono Hb.out.size), (gd_new (by decide) (by decide)).zero, ⟨[], Row.zero _ _, by unfold len; rw [if_pos (Nat.zero_le _)]; rfl⟩, rfl, rfl, by show (0 : Int) ≤ _; omega⟩
  have D0 := Lib.hid hd0
  clear Hb ha hb2 hd0
  go_wp2_with fail
  go_loopw [8, 9] (fun h j W => ∃ (k : Nat) (hh : Int) (s : Ar), j = .int .i64 (k : Int) ∧ k ≤ N + C ∧ h = .int .i64 hh ∧ Fst w p N k hh s W) (fun _ j _ => N + C - (intOf j).toNat)
  case atStart => exact ⟨0, 0, _, rfl, by omega, rfl, D0.out⟩
  case round =>
    obtain ⟨k, h, s, rfl, k1, rfl, hd⟩ := hrel
    have D := Lib.hid hd
    clear hd D0
    by_cases hk : k < N + C
    · have kI : (k : Int) < (N : Int) + (C : Int) := by omega
      by_cases hkn : k < N
      · have kN : (k : Int) < (N : Int) := by omega
        obtain ⟨s2, q2, s3, s4, m, hc, e1, e2, hwk, sn2, sn3, hp⟩ := D.out.ins HN.out.1 hkn (!(one == (bits BinOp.and IntKind.i64 (k : Int) 1 == 0)))
        have C2 := Lib.hid (hc _ D.out.ars)
        have Wk := Lib.hid hwk
        have S2 := Lib.hid sn2
        have S3 := Lib.hid sn3
        have HP := Lib.hid hp
        clear hc hwk sn2 sn3 hp
        by_cases g0 : h = 0
        · obtain rfl := e1 g0
          subst g0
          clear e1 e2
          go_wp2_with fail
          refine C2.out.mono ?_
          rintro e w5 ⟨rfl, ha, hk⟩
          have A5 := Lib.hid ha
          have B5 := Lib.hid (D.out.bel.trans (hk.below_of D.out.bel.size))
          clear ha hk
          go_wp2_with fail
          refine (work_is (B := 100000000000) 200 Wk.out rfl A5.out S3.out (by decide) (by decide)).mono ?_
          rintro e w7 ⟨rfl, ha, hk⟩
          have D7 := Lib.hid (HP.out _ ha (B5.out.trans (hk.below_of B5.out.size)))
          clear ha hk
          go_wp2_with fail
          go_roundw
          case rel => exact ⟨k + 1, q2, s4, by go_num, by omega, rfl, D7.out⟩
          case measure => simp [intOf]; omega
        · have E2 := Lib.hid (e2 g0)
          have gz : (h == 0) = false := by simpa using g0
          have gn : (h != 0) = true := by simpa using g0
          clear e1 e2
          go_wp2_with fail
          refine C2.out.mono ?_
          rintro e w5 ⟨rfl, ha, hk⟩
          have A5' := Lib.hid ha
          have B5' := Lib.hid (D.out.bel.trans (hk.below_of D.out.bel.size))
          clear ha hk
          go_wp2_with fail
          refine (drop_is h E2.out A5'.out S2.out.fit).mono ?_
          rintro e w6 ⟨rfl, ha, hk⟩
          have A5 := Lib.hid ha
          have B5 := Lib.hid (B5'.out.trans (hk.below_of B5'.out.size))
          clear ha hk A5' B5'
          go_wp2_with fail
          refine (work_is (B := 100000000000) 200 Wk.out rfl A5.out S3.out (by decide) (by decide)).mono ?_
          rintro e w7 ⟨rfl, ha, hk⟩
          have D7 := Lib.hid (HP.out _ ha (B5.out.trans (hk.below_of B5.out.size)))
          clear ha hk
          go_wp2_with fail
          go_roundw
          case rel => exact ⟨k + 1, q2, s4, by go_num, by omega, rfl, D7.out⟩
          case measure => simp [intOf]; omega
      · have kN : (N : Int) ≤ (k : Int) := by omega
        obtain ⟨s2, q2, s3, s4, m, hc, e1, e2, hwk, sn2, sn3, hp⟩ := D.out.del HN.out.1 (by omega) (by have := HN.out; omega)
        have C2 := Lib.hid (hc _ D.out.ars)
        have Wk := Lib.hid hwk
        have S2 := Lib.hid sn2
        have S3 := Lib.hid sn3
        have HP := Lib.hid hp
        clear hc hwk sn2 sn3 hp
        by_cases g0 : h = 0
        · obtain rfl := e1 g0
          subst g0
          clear e1 e2
          go_wp2_with fail
          refine C2.out.mono ?_
          rintro e w5 ⟨rfl, ha, hk⟩
          have A5 := Lib.hid ha
          have B5 := Lib.hid (D.out.bel.trans (hk.below_of D.out.bel.size))
          clear ha hk
          go_wp2_with fail
          refine (work_is (B := 100000000000) 200 Wk.out rfl A5.out S3.out (by decide) (by decide)).mono ?_
          rintro e w7 ⟨rfl, ha, hk⟩
          have D7 := Lib.hid (HP.out _ ha (B5.out.trans (hk.below_of B5.out.size)))
          clear ha hk
          go_wp2_with fail
          go_roundw
          case rel => exact ⟨k + 1, q2, s4, by go_num, by omega, rfl, D7.out⟩
          case measure => simp [intOf]; omega
        · have E2 := Lib.hid (e2 g0)
          have gz : (h == 0) = false := by simpa using g0
          have gn : (h != 0) = true := by simpa using g0
          clear e1 e2
          go_wp2_with fail
          refine C2.out.mono ?_
          rintro e w5 ⟨rfl, ha, hk⟩
          have A5' := Lib.hid ha
          have B5' := Lib.hid (D.out.bel.trans (hk.below_of D.out.bel.size))
          clear ha hk
          go_wp2_with fail
          refine (drop_is h E2.out A5'.out S2.out.fit).mono ?_
          rintro e w6 ⟨rfl, ha, hk⟩
          have A5 := Lib.hid ha
          have B5 := Lib.hid (B5'.out.trans (hk.below_of B5'.out.size))
          clear ha hk A5' B5'
          go_wp2_with fail
          refine (work_is (B := 100000000000) 200 Wk.out rfl A5.out S3.out (by decide) (by decide)).mono ?_
          rintro e w7 ⟨rfl, ha, hk⟩
          have D7 := Lib.hid (HP.out _ ha (B5.out.trans (hk.below_of B5.out.size)))
          clear ha hk
          go_wp2_with fail
          go_roundw
          case rel => exact ⟨k + 1, q2, s4, by go_num, by omega, rfl, D7.out⟩
          case measure => simp [intOf]; omega
    · obtain rfl : k = N + C := by omega
      have sn := Lib.hid (D.out.snd (by have := HN.out; omega))
      obtain ⟨xs, rx, hl⟩ := D.out.row
      have hl2 : xs.length = N - C := by
        rw [hl]
        unfold len
        have := HN.out
        split <;> omega
      have RX := Lib.hid rx
      have G := Lib.hid D.out.gd
      have cN : (C : Int) ≤ (N : Int) := by have := HN.out; omega
      have eN : ((N - C : Nat) : Int) = (N : Int) - (C : Int) := by have := HN.out; omega
      have HL := fun W ha => Lib.hid (show Calls Try.prog 13 #[.pointer (some ⟨p, 0, none⟩), .int .i64 h] W fun e w' => e = .returned (.int .i64 ((N : Int) - (C : Int))) ∧ Below W.heap.size W w' from by have := blen_row (w := W) (K := fun b => b < w.heap.size) (p := p) G.out sn.out RX.out ha; rw [hl2, eN] at this; exact this)
      have HD := fun W ha => Lib.hid (show Calls Try.prog 27 #[.pointer (some ⟨p, 0, none⟩), .int .i64 h] W fun e w' => (∃ d : Nat, d ≤ 7 ∧ e = .returned (.int .i64 d)) ∧ Below W.heap.size W w' from (deep_row (w := W) (K := fun b => b < w.heap.size) (p := p) G.out sn.out RX.out ha).mono fun e w' ⟨⟨d, hd, he⟩, hb⟩ => ⟨⟨d, Nat.le_trans hd (hi_400 (by have := HN.out; omega)), he⟩, hb⟩)
      have HW := fun W => Lib.hid (show Calls Try.prog 28 #[.int .i64 ((N : Int) - (C : Int))] W fun e w' => (∃ z : Nat, 7 ≤ z ∧ z ≤ 11 ∧ e = .returned (.int .i64 z)) ∧ W = w' from by rw [← eN]; exact wide_num (N - C) (by have := HN.out; omega) W)
      obtain ⟨R, hR⟩ := Int.eq_ofNat_of_zero_le G.out.busy_le.1
      have HR := Lib.hid (fun (zs : List Int) (ha : Asc zs) (hz : ∀ x, x ∈ zs ↔ Rch s [h] x) => show zs.length = R by have := busy_reach G.out D.out.wt (R := [h]) (fun _ h => h) ha hz; omega)
      have hRle : (R : Int) ≤ 6000 := by have := G.out.busy_le; have := G.out.n2; omega
      have HU := fun W ha => Lib.hid (used_is (w := W) (K := fun b => b < w.heap.size) (p := p) hR ha)
      have HP := fun W ha => Lib.hid (pending_is (w := W) (K := fun b => b < w.heap.size) (p := p) (s := s) (c := 0) (by rw [D.out.wt]; rfl) ha)
      have A0 := Lib.hid D.out.ars
      have B0 := Lib.hid D.out.bel
      have nI : (N : Int) ≤ 400 := by have := HN.out; omega
      clear rx hl hl2 eN hR D k1 hk
      go_wp2_with fail
      refine (HL _ A0.out).out.mono ?_
      rintro e w5 ⟨rfl, hb⟩
      have A5 := Lib.hid (A0.out.below hb)
      have B5 := Lib.hid (B0.out.trans (hb.mono B0.out.size))
      clear hb A0 B0 HL
      go_wp2_with fail
      refine (HD _ A5.out).out.mono ?_
      rintro e w6 ⟨⟨d, hd, rfl⟩, hb⟩
      have A6 := Lib.hid (A5.out.below hb)
      have B6 := Lib.hid (B5.out.trans (hb.mono B5.out.size))
      have dI : (d : Int) ≤ 7 := by omega
      clear hb A5 B5 HD hd
      go_wp2_with fail
      refine (HW _).out.mono ?_
      rintro e w7 ⟨⟨z, z1, z2, rfl⟩, rfl⟩
      have zI : (7 : Int) ≤ (z : Int) := by omega
      have zJ : (z : Int) ≤ 11 := by omega
      have zK : (d : Int) ≤ 4 + 2 * (z : Int) := by omega
      go_wp2_with fail
      refine (HU _ A6.out).out.mono ?_
      rintro e w8 ⟨rfl, rfl⟩
      have A8 := Lib.hid (A6.out.alloc (.cells #[.int .i64 h] 3))
      have B8 := Lib.hid (B6.out.alloc B6.out.size (.cells #[.int .i64 h] 3))
      go_wp2_with fail
      refine (reach_len A8.out sn.out.fit (ints_one w6 h) (by show 1 ≤ 100; omega) HR.out).mono ?_
      rintro e w9 ⟨⟨ra, rb, rfl⟩, hb⟩
      have A9 := Lib.hid (A8.out.below hb)
      have B9 := Lib.hid (B8.out.trans (hb.mono B8.out.size))
      clear hb A8 B8
      go_wp2_with fail
      refine (HP _ A9.out).out.mono ?_
      rintro e w10 ⟨rfl, rfl⟩
      go_wp2_with fail
      go_ret
      exact ⟨rfl, B9.out⟩

set_option maxRecDepth 100000 in
theorem lifted (os : Os) (started : os.Started) (H : Type) (enc : TypeId × Value → H) :
    ReturnsInHanded {} Try.checked os 9 .any (Rows.bitsFrontSpec.pre6 enc Try.prog Try.f9 Rows.bitsFrontRow.domain false) (Rows.bitsFrontSpec.post enc Try.prog Try.f9 false true false false) := by
  refine returnsInHanded_of_change (C := Try.checked) own_ started (by kernel_rfl) Try.func9
    (ChangeSpec.witness6 (enc := enc) (C := Try.checked) false ⟨#[], #[.int .i64 0, .int .i64 0, .bool false], []⟩ 8 (by kernel_rfl) (by kernel_rfl) (by kernel_rfl) (by kernel_rfl)) ?_
  intro W base args ds gs before hval0 hW _ _
  have hval : ∀ (j : Nat) t v, Try.f9.params[j]? = some t → args[j]? = some v → Value.okWide Try.prog W .any base t v := hval0
  have hW' := hW
  obtain ⟨p, q, hA0, hV, rfl, hfz, hnd⟩ := hW
  have hA : DataW.TrodAll enc Try.prog W 0 (fun _ => true) true Try.f9.params.toList args.toList ds p := hA0
  rw [Try.params9] at hA hval
  obtain ⟨v0, vs0, d0, ds0, p0, q0, hargs, rfl, rfl, h0, r0⟩ := trodAll_cons hA
  obtain ⟨v1, vs1, d1, ds1, p1, q1, rfl, rfl, rfl, h1, r1⟩ := trodAll_cons r0
  obtain ⟨v2, vs2, d2, ds2, p2, q2, rfl, rfl, rfl, h2, r2⟩ := trodAll_cons r1
  obtain ⟨rfl, rfl, rfl⟩ := trodAll_nil r2
  obtain rfl : args = #[v0, v1, v2] := by cases args; simp_all
  obtain ⟨a0, rfl, rfl, rfl, w0⟩ := open_int Try.underlying3 (hval 0 3 v0 rfl rfl) h0
  obtain ⟨a1, rfl, rfl, rfl, w1⟩ := open_int Try.underlying3 (hval 1 3 v1 rfl rfl) h1
  obtain ⟨a2, rfl, rfl, rfl⟩ := open_bool Try.underlying4 (hval 2 4 v2 rfl rfl) h2
  clear hA0 hval0
  refine (walk a0 w0 a1 w1 a2 W ).mono fun e W' ⟨he, hg⟩ => ?_
  subst he
  exact ⟨_, rfl, law_post laid_ (by kernel_rfl) rfl hW' hg rfl Try.underlying4 ⟨rfl, rfl, rfl⟩⟩

theorem over : Rows.bitsFrontRow.holds Try.pinned (OpenSpec.ofChange Rows.bitsFrontSpec) :=
  OpenClaim.holds_of_wide 9 Try.f9 rfl rfl rfl rfl rfl rfl rfl ⟨rfl, rfl, rfl, rfl, rfl⟩ rfl rfl rfl rfl rfl (by kernel_rfl) Try.func9 (by kernel_rfl)
    (of_decide_eq_true (by kernel_rfl)) (by unfold Func.isWrapper; first | (rw [if_pos (by decide +kernel)]; kernel_rfl) | (rw [if_neg (by decide +kernel)]; exact ⟨rfl, rfl⟩))
    (fun os started H enc _ => lifted os started H enc)

theorem proved : Rows.BitsFrontSaid :=
  over
#print axioms proved
end Go.Proofs.Ytjfeocoengheaaa.bitsFront
