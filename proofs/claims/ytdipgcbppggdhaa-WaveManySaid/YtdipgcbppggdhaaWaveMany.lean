/- WaveMany holds: of one symbol alone, so often, the row is that; of each symbol once all are there, in their order. No condition. -/
import Derived.Test.YtdipgcbppggdhaaWv15
namespace Go.Proofs.Ytdipgcbppggdhaa.waveMany
set_option maxRecDepth 100000
open Go.ChangeShapes Go.WideShapes Go.ChangeAt Go.RowKit

/-- So many symbols, one after the other. -/
def rise (u k : Nat) : List Nat := (List.range k).map fun i => u + i
theorem rise_len (u k : Nat) : (rise u k).length = k := by unfold rise; rw [List.length_map, List.length_range]
theorem rise_get {u k j : Nat} (h : j < k) : (rise u k).getD j 0 = u + j := by unfold rise; simp [List.getD, h]
theorem rise_ins (u k : Nat) : wIns (rise u k) k (u + k) = rise u (k + 1) := by
  unfold wIns
  rw [List.take_of_length_le (by rw [rise_len]; omega), List.drop_eq_nil_of_le (by rw [rise_len]; omega)]
  unfold rise
  rw [List.range_succ, List.map_append]
  rfl
theorem rise_less {u : Nat} : ∀ {k : Nat} (v : Nat), u ≤ v → v ≤ u + k → (rise u k).countP (fun y => decide (y < v)) = v - u
  | 0, v, h1, h2 => by
    have : v - u = 0 := by omega
    rw [this]
    rfl
  | k + 1, v, h1, h2 => by
    have e : rise u (k + 1) = rise u k ++ [u + k] := by unfold rise; rw [List.range_succ, List.map_append]; rfl
    rw [e, List.countP_append, List.countP_singleton]
    by_cases c : v ≤ u + k
    · rw [rise_less v h1 c, if_neg (by simp; omega)]
      omega
    · have e2 : (rise u k).countP (fun y => decide (y < v)) = k := by
        have := List.countP_eq_length (p := fun y => decide (y < v)) (l := rise u k)
        rw [rise_len] at this
        refine this.2 fun y hy => ?_
        unfold rise at hy
        obtain ⟨i, hi, rfl⟩ := List.mem_map.1 hy
        have := List.mem_range.1 hi
        simp
        omega
      rw [e2, if_pos (by simp; omega)]
      omega
theorem same_ins (u k : Nat) : wIns (List.replicate k u) 0 u = List.replicate (k + 1) u := rfl
theorem same_less {u k v : Nat} : (List.replicate k u).countP (fun y => decide (y < v)) = if u < v then k else 0 := by
  rw [List.countP_replicate]
  simp
/-- Between two rounds. -/
structure Two (s : Ar) (h g : Int) (u k : Nat) : Prop where
  gd : Gd s [h, g]
  one : WRow s [h, g] h (List.replicate k u)
  two : WRow s [h, g] g (rise u k)
  wt : s.wt = []
  mb : s.made - s.busy ≤ 12000 * k
  n : s.n = 6000
theorem Two.busy {s : Ar} {h g : Int} {u k : Nat} (T : Two s h g u k) : s.busy ≤ 54 * k := by
  have := busy_two T.gd T.wt T.one.rep T.two.rep
  rw [List.length_replicate, rise_len] at this
  omega
theorem Two.snd {s : Ar} {h g : Int} {u k : Nat} (T : Two s h g u k) (hk : k ≤ 60) : Snd s := T.gd.snd (by simp) (by have := T.mb; omega)
theorem Two.zero {s : Ar} {h g : Int} {u k : Nat} (T : Two s h g u k) : (h = 0 ↔ k = 0) ∧ (g = 0 ↔ k = 0) := by
  constructor
  · rw [T.one.nil_iff, List.replicate_eq_nil_iff]
  · rw [T.two.nil_iff, ← List.length_eq_zero_iff, rise_len]
theorem two_new (u : Nat) : Two (Ar.new 6000) 0 0 u 0 := ⟨((gd_new (by decide) (by decide)).zero).zero, WRow.zero _ _, WRow.zero _ _, rfl, by show (0 : Int) ≤ _; omega, rfl⟩
/-- One round. -/
structure Round (s : Ar) (h g : Int) (u k : Nat) (s1 s2 : Ar) (x y : Int) : Prop where
  in1 : ∀ {K : Nat → Prop} {p : Nat} {w : World}, Ars w K p s → Calls Try.prog 17 #[.pointer (some ⟨p, 0, none⟩), .int .i64 h, .int .i64 0, .int .i64 u] w fun o w' => o = .returned (.tuple #[.int .i64 x, .int .i64 0]) ∧ Ars w' K p s1 ∧ Kept K w w'
  in2 : ∀ {K : Nat → Prop} {p : Nat} {w : World}, Ars w K p s1 → Calls Try.prog 17 #[.pointer (some ⟨p, 0, none⟩), .int .i64 g, .int .i64 k, .int .i64 ((u : Int) + (k : Int))] w fun o w' => o = .returned (.tuple #[.int .i64 y, .int .i64 0]) ∧ Ars w' K p s2 ∧ Kept K w w'
  snd2 : Snd s2
  snd3 : Snd (s2.drop h).1
  snd4 : Snd ((s2.drop h).1.drop g).1
  next : Two (((s2.drop h).1.drop g).1.work 1073741824).1 x y u (k + 1)
  same : k = 0 → ((s2.drop h).1.drop g).1 = s2
theorem Two.round {s : Ar} {h g : Int} {u k : Nat} (T : Two s h g u k) (hk : k < 60) (hu : u + k < 257) : ∃ s1 s2 x y, Round s h g u k s1 s2 x y := by
  have hb := T.busy
  have hmb := T.mb
  have hn := T.n
  have hs := hi_sm (N := k) (by omega)
  have l1 : (List.replicate k u).length = k := List.length_replicate
  have l2 := rise_len u k
  obtain ⟨s1, x, W1, g1, r1, c1⟩ := wInsert_yes (i := 0) (v := u) T.gd T.one (Nat.zero_le _) (by omega) (by omega) (by simp) (by omega) (by rw [l1]; omega)
  rw [l1] at W1
  have md1 := W1.md
  have n1 := W1.ext.n
  obtain ⟨j1, d1, d2, d3⟩ := W1.made
  have rg := T.two.ext W1.ext (L' := x :: [h, g]) fun z hz => List.mem_cons_of_mem _ hz
  obtain ⟨s2, y, W2, g2, r2, c2⟩ := wInsert_yes (i := k) (v := u + k) g1 rg (by omega) (by omega) hu (by simp) (by omega) (by rw [l2]; omega)
  rw [l2] at W2
  have md2 := W2.md
  have n2 := W2.ext.n
  have h0 := T.one.range
  have g0 := T.two.range
  have g3 : Gd (s2.drop h).1 [y, x, g] := gd_drop (g2.perm (L' := [h, y, x, g]) fun z _ => by simp only [cnt_cons]; omega) h0.1 (by omega)
  have n3 := drop_n s2 h
  have g4 : Gd ((s2.drop h).1.drop g).1 [y, x] := gd_drop (g3.perm (L' := [g, y, x]) fun z _ => by simp only [cnt_cons]; omega) g0.1 (by omega)
  have n4 := drop_n (s2.drop h).1 g
  have b3 := drop_busy s2 h
  have b4 := drop_busy (s2.drop h).1 g
  have m3 := drop_made s2 h
  have m4 := drop_made (s2.drop h).1 g
  have bl4 := g4.busy_le
  have nn4 := g4.n2
  have wt5 := work_none 1073741824 _ g4 (by omega)
  have g5 := gd_work g4 1073741824
  have bl5 := g5.busy_le
  have w1 := work_made 1073741824 ((s2.drop h).1.drop g).1
  have w2 := work_nn 1073741824 ((s2.drop h).1.drop g).1
  have rx : WRow (((s2.drop h).1.drop g).1.work 1073741824).1 [y, x] x (wIns (List.replicate k u) 0 u) := ((((r1.ext W2.ext (L' := [y, x, h, g]) fun z hz => List.mem_cons_of_mem _ hz).drop h (L' := [y, x, g]) (.inr (by simp))).drop g (L' := [y, x]) (.inr (by simp))).work g4 _)
  have ry : WRow (((s2.drop h).1.drop g).1.work 1073741824).1 [y, x] y (wIns (rise u k) k (u + k)) := (((r2.drop h (L' := [y, x, g]) (.inr (by simp))).drop g (L' := [y, x]) (.inr (by simp))).work g4 _)
  rw [same_ins] at rx
  rw [rise_ins] at ry
  refine ⟨s1, s2, x, y, ⟨fun ha => c1 ha, fun ha => c2 ha, g2.snd (by simp) (by omega), g3.snd (by simp) (by omega), g4.snd (by simp) (by omega), ⟨g5.swap, ⟨rx.rep, .inr (by simp), rx.len, rx.sym⟩, ⟨ry.rep, .inr (by simp), ry.len, ry.sym⟩, wt5, by omega, by omega⟩, fun e => ?_⟩⟩
  have e1 : h = 0 := T.zero.1.2 e
  have e2 : g = 0 := T.zero.2.2 e
  subst e1 e2
  have e3 : (s2.drop 0).1 = s2 := by
    unfold Ar.drop
    rw [if_pos (count_zero' s2)]
  rw [e3, e3]
def L1 (K : Nat → Prop) (p u N : Nat) (w : World) (h g k : Value) (W : World) : Prop := ∃ (s : Ar) (hh gg : Int) (j : Nat), h = .int .i64 hh ∧ g = .int .i64 gg ∧ k = .int .i64 (j : Int) ∧ j ≤ N ∧ Two s hh gg u j ∧ Ars W K p s ∧ Below w.heap.size w W
set_option maxRecDepth 100000 in
set_option maxHeartbeats 16000000 in
theorem walk (n : Int) (_w1 : (Lit.int .i64 n).wf = true) (sy : Int) (_w2 : (Lit.int .i64 sy).wf = true) (w : World) :
    Calls Try.prog 4 #[.int .i64 n, .int .i64 sy] w fun e w' => e = .returned (.bool true) ∧ Below w.heap.size w w' := by
  have HA := Lib.hid alive9
  by_cases n0 : n < 0
  · skip
    go_enter Try.func4, Try.ntmps4
    go_wp2_with fail
    refine (HA.out w).mono ?_
    rintro e w1 ⟨rfl, hb⟩
    go_wp2_with fail
    go_ret
    exact ⟨rfl, hb⟩
  by_cases n60 : 60 < n
  · have n1 : 0 ≤ n := by omega
    clear n0
    go_enter Try.func4, Try.ntmps4
    go_wp2_with fail
    refine (HA.out w).mono ?_
    rintro e w1 ⟨rfl, hb⟩
    go_wp2_with fail
    go_ret
    exact ⟨rfl, hb⟩
  obtain ⟨N, rfl⟩ := Int.eq_ofNat_of_zero_le (show 0 ≤ n by omega)
  have nI : (N : Int) ≤ 60 := by omega
  clear n0 n60
  by_cases s0 : sy < 0
  · skip
    go_enter Try.func4, Try.ntmps4
    go_wp2_with fail
    refine (HA.out w).mono ?_
    rintro e w1 ⟨rfl, hb⟩
    go_wp2_with fail
    go_ret
    exact ⟨rfl, hb⟩
  by_cases s1 : 257 ≤ sy
  · have s2 : 0 ≤ sy := by omega
    clear s0
    go_enter Try.func4, Try.ntmps4
    go_wp2_with fail
    refine (HA.out w).mono ?_
    rintro e w1 ⟨rfl, hb⟩
    go_wp2_with fail
    go_ret
    exact ⟨rfl, hb⟩
  obtain ⟨u, rfl⟩ := Int.eq_ofNat_of_zero_le (show 0 ≤ sy by omega)
  have uI : (u : Int) < 257 := by omega
  clear s0 s1
  by_cases su : 257 < (u : Int) + (N : Int)
  · have su2 : decide (257 < (u : Int) + (N : Int)) = true := by simpa using su
    clear su
    go_enter Try.func4, Try.ntmps4
    go_wp2_with fail
    refine (HA.out w).mono ?_
    rintro e w1 ⟨rfl, hb⟩
    go_wp2_with fail
    go_ret
    exact ⟨rfl, hb⟩
  have su2 : decide (257 < (u : Int) + (N : Int)) = false := by simpa using su
  have HU := Lib.hid (show u + N ≤ 257 ∧ u < 257 ∧ N ≤ 60 by omega)
  clear su
  go_enter Try.func4, Try.ntmps4
  go_wp2_with fail
  refine (HA.out _).mono ?_
  rintro e w2 ⟨rfl, hb⟩
  have B2 := Lib.hid hb
  clear hb HA su2
  go_wp2_with fail
  refine (new_yes 6000 _ (by decide) (by decide)).mono ?_
  rintro e w3 ⟨p, rfl, hb, ha⟩
  have A3 := Lib.hid (ha (fun b => b < w.heap.size) (fun b hb => by have := B2.out.size; omega))
  have B3 := Lib.hid (B2.out.trans (hb.mono B2.out.size))
  clear hb ha B2
  go_wp2_with fail
  go_loopw [6, 7, 8] (L1 (fun b => b < w.heap.size) p u N w) (fun _ _ k _ => N - (intOf k).toNat)
  case atStart => exact ⟨_, _, _, 0, rfl, rfl, rfl, Nat.zero_le _, two_new u, A3.out, B3.out⟩
  case round =>
    obtain ⟨s, h, g, j, rfl, rfl, rfl, hj, ht, ha, hb⟩ := hrel
    have HT := Lib.hid ht
    have A4 := Lib.hid ha
    have B4 := Lib.hid hb
    clear ht ha hb A3 B3
    by_cases hjn : j < N
    · have HJ := Lib.hid hjn
      obtain ⟨s1, s2, x, y, hr⟩ := HT.out.round (by have := HU.out; omega) (by have := HU.out; omega)
      have R := Lib.hid hr
      have HI1 := Lib.hid (hr.in1 (w := wr) A4.out)
      have HI2 := Lib.hid (fun W (ha : Ars W (fun b => b < w.heap.size) p s1) => hr.in2 ha)
      have jI : (j : Int) < (N : Int) := by omega
      clear hr hj hjn
      by_cases j0 : j = 0
      · have eh : h = 0 := HT.out.zero.1.2 j0
        have eg : g = 0 := HT.out.zero.2.2 j0
        have HN := Lib.hid (show Two (s2.work 1073741824).1 x y u (j + 1) by have := R.out.next; rw [R.out.same j0] at this; exact this)
        subst eh eg
        clear j0
        go_wp2_with fail
        refine HI1.out.mono ?_
        rintro e w5 ⟨rfl, ha, hk⟩
        have A5 := Lib.hid ha
        have B5 := Lib.hid (B4.out.trans (hk.below_of B4.out.size))
        clear ha hk HI1 A4 B4
        go_wp2_with fail
        refine (HI2.out _ A5.out).mono ?_
        rintro e w6 ⟨rfl, ha, hk⟩
        have A6 := Lib.hid ha
        have B6 := Lib.hid (B5.out.trans (hk.below_of B5.out.size))
        clear ha hk HI2 A5 B5
        go_wp2_with fail
        refine (work_is (B := 100000000000) 1073741824 (s := s2) (s' := ((s2).work 1073741824).1) (n := ((s2).work 1073741824).2) rfl rfl A6.out R.out.snd2 (by decide) (by decide)).mono ?_
        rintro e w7 ⟨rfl, ha, hk⟩
        have A7 := Lib.hid ha
        have B7 := Lib.hid (B6.out.trans (hk.below_of B6.out.size))
        clear ha hk
        go_wp2_with fail
        go_roundw
        case rel => exact ⟨_, _, _, j + 1, rfl, rfl, by go_num, by have := HJ.out; omega, HN.out, A7.out, B7.out⟩
        case measure => simp [intOf]; omega
      · have h0 : (h == 0) = false := by simpa using fun e => j0 (HT.out.zero.1.1 e)
        have h1 : (h != 0) = true := by simpa using fun e => j0 (HT.out.zero.1.1 e)
        have g0 : (g == 0) = false := by simpa using fun e => j0 (HT.out.zero.2.1 e)
        have g1 : (g != 0) = true := by simpa using fun e => j0 (HT.out.zero.2.1 e)
        clear j0
        go_wp2_with fail
        refine HI1.out.mono ?_
        rintro e w5 ⟨rfl, ha, hk⟩
        have A5 := Lib.hid ha
        have B5 := Lib.hid (B4.out.trans (hk.below_of B4.out.size))
        clear ha hk HI1 A4 B4
        go_wp2_with fail
        refine (HI2.out _ A5.out).mono ?_
        rintro e w6 ⟨rfl, ha, hk⟩
        have A6 := Lib.hid ha
        have B6 := Lib.hid (B5.out.trans (hk.below_of B5.out.size))
        clear ha hk HI2 A5 B5
        go_wp2_with fail
        refine (drop_is h (s' := (s2.drop h).1) (e := (s2.drop h).2) rfl A6.out R.out.snd2.fit).mono ?_
        rintro e w8 ⟨rfl, ha, hk⟩
        have A8 := Lib.hid ha
        have B8 := Lib.hid (B6.out.trans (hk.below_of B6.out.size))
        clear ha hk A6 B6
        go_wp2_with fail
        refine (drop_is g (s' := ((s2.drop h).1.drop g).1) (e := ((s2.drop h).1.drop g).2) rfl A8.out R.out.snd3.fit).mono ?_
        rintro e w9 ⟨rfl, ha, hk⟩
        have A9 := Lib.hid ha
        have B9 := Lib.hid (B8.out.trans (hk.below_of B8.out.size))
        clear ha hk A8 B8
        go_wp2_with fail
        refine (work_is (B := 100000000000) 1073741824 (s := ((s2.drop h).1.drop g).1) (s' := ((((s2.drop h).1.drop g).1).work 1073741824).1) (n := ((((s2.drop h).1.drop g).1).work 1073741824).2) rfl rfl A9.out R.out.snd4 (by decide) (by decide)).mono ?_
        rintro e w7 ⟨rfl, ha, hk⟩
        have A7 := Lib.hid ha
        have B7 := Lib.hid (B9.out.trans (hk.below_of B9.out.size))
        clear ha hk
        go_wp2_with fail
        go_roundw
        case rel => exact ⟨_, _, _, j + 1, rfl, rfl, by go_num, by have := HJ.out; omega, R.out.next, A7.out, B7.out⟩
        case measure => simp [intOf]; omega
    · obtain rfl : j = N := by omega
      have SN := Lib.hid (HT.out.snd (by have := HU.out; omega))
      have HRk := Lib.hid (show Calls Try.prog 13 #[.pointer (some ⟨p, 0, none⟩), .int .i64 h, .int .i64 u, .int .i64 j] wr fun e w' => e = .returned (.int .i64 j) ∧ Below wr.heap.size wr w' from by
        have hh := wrank_row (i := (j : Int)) (c := j) (v := u) HT.out.gd SN.out HT.out.one HU.out.2.1 (by rw [List.length_replicate]; omega) A4.out
        rw [List.take_of_length_le (by rw [List.length_replicate]; omega), List.count_replicate_self] at hh
        exact hh)
      have HB1 := Lib.hid (fun W (ha : Ars W (fun b => b < w.heap.size) p s) => show Calls Try.prog 15 #[.pointer (some ⟨p, 0, none⟩), .int .i64 h, .int .i64 ((u : Int) + 1)] W fun e w' => e = .returned (.int .i64 j) ∧ Below W.heap.size W w' from by
        have hh := wbefore_row (v := u + 1) HT.out.gd SN.out HT.out.one (by have := HU.out.2.1; omega) ha
        rw [same_less, if_pos (by omega)] at hh
        exact hh)
      have HB0 := Lib.hid (fun W (ha : Ars W (fun b => b < w.heap.size) p s) => show Calls Try.prog 15 #[.pointer (some ⟨p, 0, none⟩), .int .i64 h, .int .i64 u] W fun e w' => e = .returned (.int .i64 0) ∧ Below W.heap.size W w' from by
        have hh := wbefore_row (v := u) HT.out.gd SN.out HT.out.one (by have := HU.out.2.1; omega) ha
        rw [same_less, if_neg (by omega)] at hh
        exact hh)
      have HLn := Lib.hid (fun W (ha : Ars W (fun b => b < w.heap.size) p s) => show Calls Try.prog 20 #[.pointer (some ⟨p, 0, none⟩), .int .i64 g] W fun e w' => e = .returned (.int .i64 j) ∧ Below W.heap.size W w' from by
        have hh := wlen_row HT.out.gd SN.out HT.out.two ha
        rw [rise_len] at hh
        exact hh)
      clear hj hjn
      go_wp2_with fail
      refine HRk.out.mono ?_
      rintro e w5 ⟨rfl, b5⟩
      have A5 := Lib.hid (A4.out.below b5)
      have B5 := Lib.hid (B4.out.trans (b5.mono B4.out.size))
      clear b5 A4 B4 HRk
      go_wp2_with fail
      refine (HB1.out _ A5.out).mono ?_
      rintro e w6 ⟨rfl, b6⟩
      have A6 := Lib.hid (A5.out.below b6)
      have B6 := Lib.hid (B5.out.trans (b6.mono B5.out.size))
      clear b6 A5 B5 HB1
      go_wp2_with fail
      refine (HB0.out _ A6.out).mono ?_
      rintro e w7 ⟨rfl, b7⟩
      have A7 := Lib.hid (A6.out.below b7)
      have B7 := Lib.hid (B6.out.trans (b7.mono B6.out.size))
      clear b7 A6 B6 HB0
      go_wp2_with fail
      refine (HLn.out _ A7.out).mono ?_
      rintro e w8 ⟨rfl, b8⟩
      have A8 := Lib.hid (A7.out.below b8)
      have B8 := Lib.hid (B7.out.trans (b8.mono B7.out.size))
      clear b8 A7 B7 HLn
      go_wp2_with fail
      go_loopw [13] (fun k W => ∃ i : Nat, k = .int .i64 (i : Int) ∧ i ≤ j ∧ Ars W (fun b => b < w.heap.size) p s ∧ Below w.heap.size w W) (fun k _ => j - (intOf k).toNat)
      case atStart => exact ⟨0, rfl, Nat.zero_le _, A8.out, B8.out⟩
      case round =>
        obtain ⟨i, rfl, hi, ha, hb⟩ := hrel
        have A9 := Lib.hid ha
        have B9 := Lib.hid hb
        clear ha hb A8 B8
        by_cases hij : i < j
        · have iI : (i : Int) < (j : Int) := by omega
          have HIJ := Lib.hid hij
          have HGt := Lib.hid (show Calls Try.prog 16 #[.pointer (some ⟨p, 0, none⟩), .int .i64 g, .int .i64 i] wr fun e w' => e = .returned (.tuple #[.int .i64 ((u : Int) + (i : Int)), .bool true]) ∧ Below wr.heap.size wr w' from by
            have hh := wget_row (i := i) HT.out.gd SN.out HT.out.two A9.out (by rw [rise_len]; exact hij)
            rw [rise_get hij] at hh
            exact hh)
          have HBf := Lib.hid (fun W (ha : Ars W (fun b => b < w.heap.size) p s) => show Calls Try.prog 15 #[.pointer (some ⟨p, 0, none⟩), .int .i64 g, .int .i64 ((u : Int) + (i : Int))] W fun e w' => e = .returned (.int .i64 i) ∧ Below W.heap.size W w' from by
            have hh := wbefore_row (v := u + i) HT.out.gd SN.out HT.out.two (by have := HU.out; have := HIJ.out; omega) ha
            rw [rise_less (u + i) (by omega) (by omega), show u + i - u = i by omega] at hh
            exact hh)
          have HS2 := Lib.hid (fun W (ha : Ars W (fun b => b < w.heap.size) p s) => show Calls Try.prog 14 #[.pointer (some ⟨p, 0, none⟩), .int .i64 g, .int .i64 ((u : Int) + (i : Int)), .int .i64 0] W fun e w' => e = .returned (.int .i64 i) ∧ Below W.heap.size W w' from by
            obtain ⟨m, m1, m2, _, hh⟩ := wselect_row (v := u + i) (k := 0) HT.out.gd SN.out HT.out.two (by have := HU.out; have := HIJ.out; omega) (List.count_pos_iff.2 (by
              have := getD_mem (d := 0) (show i < (rise u j).length by rw [rise_len]; exact HIJ.out)
              rw [rise_get HIJ.out] at this
              exact this)) ha
            rw [rise_len] at m1
            rw [rise_get m1] at m2
            obtain rfl : m = i := by omega
            exact hh)
          have HS1 := Lib.hid (fun W (ha : Ars W (fun b => b < w.heap.size) p s) => show Calls Try.prog 14 #[.pointer (some ⟨p, 0, none⟩), .int .i64 h, .int .i64 u, .int .i64 i] W fun e w' => e = .returned (.int .i64 i) ∧ Below W.heap.size W w' from by
            obtain ⟨m, m1, _, m3, hh⟩ := wselect_row (v := u) (k := i) HT.out.gd SN.out HT.out.one HU.out.2.1 (by rw [List.count_replicate_self]; exact HIJ.out) ha
            rw [List.length_replicate] at m1
            rw [List.take_replicate, List.count_replicate_self] at m3
            obtain rfl : m = i := by omega
            exact hh)
          have uiI : (u : Int) + (i : Int) ≤ 257 := by have := HU.out; omega
          clear hi hij
          go_wp2_with fail
          refine HGt.out.mono ?_
          rintro e w10 ⟨rfl, b⟩
          have A10 := Lib.hid (A9.out.below b)
          have B10 := Lib.hid (B9.out.trans (b.mono B9.out.size))
          clear b A9 B9 HGt
          go_wp2_with fail
          refine (HBf.out _ A10.out).mono ?_
          rintro e w11 ⟨rfl, b⟩
          have A11 := Lib.hid (A10.out.below b)
          have B11 := Lib.hid (B10.out.trans (b.mono B10.out.size))
          clear b A10 B10 HBf
          go_wp2_with fail
          refine (HS2.out _ A11.out).mono ?_
          rintro e w12 ⟨rfl, b⟩
          have A12 := Lib.hid (A11.out.below b)
          have B12 := Lib.hid (B11.out.trans (b.mono B11.out.size))
          clear b A11 B11 HS2
          go_wp2_with fail
          refine (HS1.out _ A12.out).mono ?_
          rintro e w13 ⟨rfl, b⟩
          have A13 := Lib.hid (A12.out.below b)
          have B13 := Lib.hid (B12.out.trans (b.mono B12.out.size))
          clear b A12 B12 HS1
          go_wp2_with fail
          go_roundw
          case rel => exact ⟨i + 1, by go_num, by have := HIJ.out; omega, A13.out, B13.out⟩
          case measure => simp [intOf]; omega
        · have hge : ¬ ((i : Int) < (j : Int)) := by omega
          clear hi hij
          go_wp2_with fail
          go_ret
          exact ⟨rfl, B9.out⟩

set_option maxRecDepth 100000 in
theorem lifted (os : Os) (started : os.Started) (H : Type) (enc : TypeId × Value → H) :
    ReturnsInHanded {} Try.checked os 4 .any (Rows.waveManySpec.pre6 enc Try.prog Try.f4 Rows.waveManyRow.domain false) (Rows.waveManySpec.post enc Try.prog Try.f4 false true false false) := by
  refine returnsInHanded_of_change (C := Try.checked) own_ started (by kernel_rfl) Try.func4
    (ChangeSpec.witness6 (enc := enc) (C := Try.checked) false ⟨#[], #[.int .i64 0, .int .i64 0], []⟩ 8 (by kernel_rfl) (by kernel_rfl) (by kernel_rfl) (by kernel_rfl)) ?_
  intro W base args ds gs before hval0 hW _ _
  have hval : ∀ (j : Nat) t v, Try.f4.params[j]? = some t → args[j]? = some v → Value.okWide Try.prog W .any base t v := hval0
  have hW' := hW
  obtain ⟨p, q, hA0, hV, rfl, hfz, hnd⟩ := hW
  have hA : DataW.TrodAll enc Try.prog W 0 (fun _ => true) true Try.f4.params.toList args.toList ds p := hA0
  rw [Try.params4] at hA hval
  obtain ⟨v0, vs0, d0, ds0, p0, q0, hargs, rfl, rfl, h0, r0⟩ := trodAll_cons hA
  obtain ⟨v1, vs1, d1, ds1, p1, q1, rfl, rfl, rfl, h1, r1⟩ := trodAll_cons r0
  obtain ⟨rfl, rfl, rfl⟩ := trodAll_nil r1
  obtain rfl : args = #[v0, v1] := by cases args; simp_all
  obtain ⟨a0, rfl, rfl, rfl, w0⟩ := open_int Try.underlying3 (hval 0 3 v0 rfl rfl) h0
  obtain ⟨a1, rfl, rfl, rfl, w1⟩ := open_int Try.underlying3 (hval 1 3 v1 rfl rfl) h1
  clear hA0 hval0
  refine (walk a0 w0 a1 w1 W ).mono fun e W' ⟨he, hg⟩ => ?_
  subst he
  exact ⟨_, rfl, law_post laid_ (by kernel_rfl) rfl hW' hg rfl Try.underlying4 ⟨rfl, rfl, rfl⟩⟩

theorem over : Rows.waveManyRow.holds Try.pinned (OpenSpec.ofChange Rows.waveManySpec) :=
  OpenClaim.holds_of_wide 4 Try.f4 rfl rfl rfl rfl rfl rfl rfl ⟨rfl, rfl, rfl, rfl, rfl⟩ rfl rfl rfl rfl rfl (by kernel_rfl) Try.func4 (by kernel_rfl)
    (of_decide_eq_true (by kernel_rfl)) (by unfold Func.isWrapper; first | (rw [if_pos (by decide +kernel)]; kernel_rfl) | (rw [if_neg (by decide +kernel)]; exact ⟨rfl, rfl⟩))
    (fun os started H enc _ => lifted os started H enc)

theorem proved : Rows.WaveManySaid :=
  over
#print axioms proved
end Go.Proofs.Ytdipgcbppggdhaa.waveMany
