/- ListFront holds: items that are put in at one end only, or taken out there, leave a list that is not deep. No condition. -/
import Derived.Test.YtcdmebjggdhhdaaM27
import Derived.Test.YtcdmebjggdhhdaaLaw
namespace Go.Proofs.Ytcdmebjggdhhdaa.listFront
open Go.ChangeShapes Go.WideShapes Go.ChangeAt Go.RowKit
theorem insL_len {α : Type} {l : List α} {k : Nat} {y : α} (hk : k ≤ l.length) : (insL l k y).length = l.length + 1 := by
  unfold insL
  simp
  omega
theorem delL_len {α : Type} {l : List α} {k : Nat} (hk : k < l.length) : (delL l k).length + 1 = l.length := by
  unfold delL
  simp
  omega
/-- Between two rounds. -/
structure LF (s : Ar) (h : Int) (l : List (Int × Int)) (k : Nat) : Prop where
  gd : Gd s [h]
  lh : Lh s h l
  wt : s.wt = []
  mb : s.made - s.busy ≤ 2000 * k
  n : s.n = 2000
theorem LF.busy {s : Ar} {h : Int} {l : List (Int × Int)} {k : Nat} (F : LF s h l k) : s.busy ≤ 2 * l.length := by
  obtain ⟨c, a, b, d⟩ := F.lh.cover
  have := busy_cover F.gd F.wt (l := c) (fun y hy hc => by obtain rfl := List.mem_singleton.1 hy; exact b hc) d
  omega
theorem LF.new : LF (Ar.new 2000) 0 [] 0 := ⟨(gd_new (by decide) (by decide)).zero, Lh.nil _, rfl, by show (0 : Int) ≤ _; omega, rfl⟩
theorem LF.snd {s : Ar} {h : Int} {l : List (Int × Int)} {k : Nat} (F : LF s h l k) (hk : k ≤ 400) : Snd s := F.gd.snd (by simp) (by have := F.mb; omega)
theorem lc_le (n : Nat) (hn : n ≤ 1000) : lc n ≤ 130 := by
  unfold lc
  have := bl_small hn
  split <;> omega
/-- What a change leaves, the elder list dropped, and what waits freed. -/
structure Next (s s1 : Ar) (h q : Int) (l' : List (Int × Int)) (k : Nat) : Prop where
  snd1 : Snd s1
  snd2 : Snd (s1.drop h).1
  drop : h ≠ 0 → s1.drop h = ((s1.drop h).1, 0)
  same : h = 0 → (s1.drop h).1 = s1
  next : LF ((s1.drop h).1.work 1073741824).1 q l' (k + 1)
theorem LF.next {s s1 : Ar} {h q e' : Int} {l l' : List (Int × Int)} {k : Nat} (F : LF s h l k) (hk : k ≤ 400) (hl : l.length ≤ 200) (R : LMade s s1 e' q (lc l.length) l' [h]) : e' = 0 ∧ Next s s1 h q l' k := by
  have hb := F.busy
  have hmb := F.mb
  have hn := F.n
  have hc := lc_le l.length (by omega)
  have e0 := R.sure (by omega)
  have md := R.went.md
  have n1 := R.went.ext.n
  have hr := F.lh.range
  have g2 : Gd (s1.drop h).1 [q] := gd_drop R.gd.swap hr.1 (by omega)
  have hd1 := drop_busy s1 h
  have hd2 := drop_made s1 h
  have hd3 := drop_n s1 h
  have bl2 := g2.busy_le
  have nn2 := g2.n2
  have g3 := gd_work g2 1073741824
  have bl3 := g3.busy_le
  have w1 := work_made 1073741824 (s1.drop h).1
  have w2 := work_nn 1073741824 (s1.drop h).1
  have lq := (((R.lh e0).dropg h).workg g2 (.inr List.mem_cons_self) 1073741824)
  refine ⟨e0, R.gd.snd (by simp) (by omega), g2.snd (by simp) (by omega), fun hh => ?_, fun hh => ?_, g3, lq, work_none 1073741824 _ g2 (by omega), by omega, by omega⟩
  · unfold Ar.drop
    rw [if_neg (R.gd.live (by omega) (by omega) (by simp))]
  · subst hh
    exact drop0 s1
/-- How many there are. -/
def cntf (n k : Nat) : Nat := if k ≤ n then k else 2 * n - k
def LL (K : Nat → Prop) (p n t : Nat) (w : World) (h k : Value) (W : World) : Prop := ∃ (s : Ar) (hh : Int) (l : List (Int × Int)) (j : Nat), h = .int .i64 hh ∧ k = .int .i64 (j : Int) ∧ j ≤ t ∧ l.length = cntf n j ∧ LF s hh l j ∧ Ars W K p s ∧ Below w.heap.size w W
set_option maxRecDepth 100000 in
set_option maxHeartbeats 16000000 in
theorem walk (n : Int) (_w1 : (Lit.int .i64 n).wf = true) (c : Int) (_w2 : (Lit.int .i64 c).wf = true) (front : Bool) (w : World) :
    Calls Try.prog 3 #[.int .i64 n, .int .i64 c, .bool front] w fun e w' => e = .returned (.bool true) ∧ Below w.heap.size w w' := by
  have HA := Lib.hid alive10
  by_cases n0 : n < 0
  · skip
    go_enter Try.func3, Try.ntmps3
    go_wp2_with fail
    refine (HA.out w).mono ?_
    rintro e w1 ⟨rfl, hb⟩
    go_wp2_with fail
    go_ret
    exact ⟨rfl, hb⟩
  by_cases n200 : 200 < n
  · have n1 : 0 ≤ n := by omega
    clear n0
    go_enter Try.func3, Try.ntmps3
    go_wp2_with fail
    refine (HA.out w).mono ?_
    rintro e w1 ⟨rfl, hb⟩
    go_wp2_with fail
    go_ret
    exact ⟨rfl, hb⟩
  obtain ⟨n, rfl⟩ := Int.eq_ofNat_of_zero_le (show 0 ≤ n by omega)
  have nI : (n : Int) ≤ 200 := by omega
  clear n0 n200
  by_cases c0 : c < 0
  · skip
    go_enter Try.func3, Try.ntmps3
    go_wp2_with fail
    refine (HA.out w).mono ?_
    rintro e w1 ⟨rfl, hb⟩
    go_wp2_with fail
    go_ret
    exact ⟨rfl, hb⟩
  by_cases c1 : (n : Int) < c
  · have c2 : 0 ≤ c := by omega
    clear c0
    go_enter Try.func3, Try.ntmps3
    go_wp2_with fail
    refine (HA.out w).mono ?_
    rintro e w1 ⟨rfl, hb⟩
    go_wp2_with fail
    go_ret
    exact ⟨rfl, hb⟩
  obtain ⟨c, rfl⟩ := Int.eq_ofNat_of_zero_le (show 0 ≤ c by omega)
  have cI : (c : Int) ≤ (n : Int) := by omega
  clear c0 c1
  cases front
  · skip
    go_enter Try.func3, Try.ntmps3
    go_wp2_with fail
    refine (HA.out _).mono ?_
    rintro e w2 ⟨rfl, hb⟩
    have B2 := Lib.hid hb
    clear hb HA
    go_wp2_with fail
    refine (new_yes 2000 _ (by decide) (by decide)).mono ?_
    rintro e w3 ⟨p, rfl, hb, ha⟩
    have A3 := Lib.hid (ha (fun b => b < w.heap.size) (fun b hb => by have := B2.out.size; omega))
    have B3 := Lib.hid (B2.out.trans (hb.mono B2.out.size))
    clear hb ha B2
    go_wp2_with fail
    go_loopw [8, 9] (LL (fun b => b < w.heap.size) p n (n + c) w) (fun _ k _ => n + c - (intOf k).toNat)
    case atStart => exact ⟨_, _, [], 0, rfl, rfl, Nat.zero_le _, by unfold cntf; rw [if_pos (Nat.zero_le _)]; rfl, LF.new, A3.out, B3.out⟩
    case round =>
      obtain ⟨s, h, l, j, rfl, rfl, hj, hln, hf, ha, hb⟩ := hrel
      have F := Lib.hid hf
      have A4 := Lib.hid ha
      have B4 := Lib.hid hb
      have HLn := Lib.hid (show l.length ≤ n by rw [hln]; unfold cntf; split <;> omega)
      clear hf ha hb A3 B3
      by_cases hjt : j < n + c
      · have HJ := Lib.hid hjt
        have jI : (j : Int) < (n : Int) + (c : Int) := by omega
        have HLen := Lib.hid (len_is (w := wr) (K := fun b => b < w.heap.size) (p := p) (F.out.gd.goodb (by simp) (by have := F.out.mb; omega)) (by decide) F.out.lh (.inr (.inl List.mem_cons_self)) (by have := HLn.out; omega) A4.out)
        obtain ⟨m, hm⟩ : ∃ m, m = l.length := ⟨_, rfl⟩
        rw [← hm] at HLen
        have mI : (m : Int) ≤ 200 := by have := HLn.out; omega
        have Hm := Lib.hid hm
        have HN := Lib.hid hln
        clear hm hln
        go_wp2_with fail
        refine HLen.out.mono ?_
        rintro e w4 ⟨rfl, ha, hb⟩
        replace A4 := Lib.hid ha
        replace B4 := Lib.hid (B4.out.trans (hb.mono B4.out.size))
        clear ha hb HLen hj hjt
        by_cases hjn : j < n
        · have jn : (j : Int) < (n : Int) := by omega
          have HI := Lib.hid (linsert (x := (j : Int)) (y := 0) (i := m) F.out.gd (by simp) (by have := F.out.mb; have := HJ.out; omega) F.out.lh (.inr (.inl List.mem_cons_self)) (by have := HLn.out; omega) (by have := Hm.out; omega) ⟨by omega, by omega⟩ (by decide) A4.out)
          have HL2 := Lib.hid (show (insL l m ((j : Int), 0)).length = cntf n (j + 1) from by rw [insL_len (by have := Hm.out; omega), HN.out]; unfold cntf; rw [if_pos (by omega), if_pos (by omega)])
          clear HN Hm
          go_wp2_with fail
          refine HI.out.mono ?_
          rintro e w5 ⟨q, s1, e1, rfl, ha, hk, R⟩
          obtain ⟨rfl, N⟩ := F.out.next (by have := HJ.out; omega) (by have := HLn.out; omega) R
          have A5 := Lib.hid ha
          have B5 := Lib.hid (B4.out.trans (hk.below_of B4.out.size))
          have NN := Lib.hid N
          clear ha hk R N A4 B4
          by_cases hh : h = 0
          · skip
            have h0 : (h == 0) = true := by simpa using hh
            have h1 : (h != 0) = false := by simpa using hh
            have NX := Lib.hid (show LF (s1.work 1073741824).1 q (insL l m ((j : Int), 0)) (j + 1) by have := NN.out.next; rw [NN.out.same hh] at this; exact this)
            clear hh
            go_wp2_with fail
            refine (work_is (B := 100000000000) 1073741824 (s := s1) (s' := ((s1).work 1073741824).1) (n := ((s1).work 1073741824).2) rfl rfl A5.out NN.out.snd1 (by decide) (by decide)).mono ?_
            rintro e w7 ⟨rfl, ha, hk⟩
            have A7 := Lib.hid ha
            have B7 := Lib.hid (B5.out.trans (hk.below_of B5.out.size))
            clear ha hk
            go_wp2_with fail
            go_roundw
            case rel => exact ⟨_, _, insL l m ((j : Int), 0), j + 1, rfl, by go_num, by have := HJ.out; omega, HL2.out, NX.out, A7.out, B7.out⟩
            case measure => simp [intOf]; omega
          · skip
            have h0 : (h == 0) = false := by simpa using hh
            have h1 : (h != 0) = true := by simpa using hh
            have HD := Lib.hid (drop_is h (NN.out.drop hh) A5.out (snd_fit NN.out.snd1))
            clear hh
            go_wp2_with fail
            refine HD.out.mono ?_
            rintro e w6 ⟨rfl, ha, hk⟩
            have A6 := Lib.hid ha
            have B6 := Lib.hid (B5.out.trans (hk.below_of B5.out.size))
            clear ha hk HD A5 B5
            go_wp2_with fail
            refine (work_is (B := 100000000000) 1073741824 (s := (s1.drop h).1) (s' := (((s1.drop h).1).work 1073741824).1) (n := (((s1.drop h).1).work 1073741824).2) rfl rfl A6.out NN.out.snd2 (by decide) (by decide)).mono ?_
            rintro e w7 ⟨rfl, ha, hk⟩
            have A7 := Lib.hid ha
            have B7 := Lib.hid (B6.out.trans (hk.below_of B6.out.size))
            clear ha hk
            go_wp2_with fail
            go_roundw
            case rel => exact ⟨_, _, insL l m ((j : Int), 0), j + 1, rfl, by go_num, by have := HJ.out; omega, HL2.out, NN.out.next, A7.out, B7.out⟩
            case measure => simp [intOf]; omega
        · have jn : (n : Int) ≤ (j : Int) := by omega
          have m1 : 1 ≤ m := by have hln := HN.out; have := Hm.out; unfold cntf at hln; have := HJ.out; split at hln <;> omega
          have mI1 : (1 : Int) ≤ (m : Int) := by omega
          have Hh0 := Lib.hid (show h ≠ 0 from fun e => by
            have := F.out.lh.nil_iff.1 e
            have hm := Hm.out
            rw [this] at hm
            simp at hm
            omega)
          have hmx : max ((m : Int) - 1) 0 = (m : Int) - 1 := by omega
          have hnn : ¬ ((m : Int) - 1 < 0) := by omega
          have HI := Lib.hid (ldelete (i := (m - 1)) F.out.gd (by simp) (by have := F.out.mb; have := HJ.out; omega) F.out.lh (.inr (.inl List.mem_cons_self)) (by have := HLn.out; omega) (by have := Hm.out; omega) A4.out)
          have HL2 := Lib.hid (show (delL l (m - 1)).length = cntf n (j + 1) from by have := Hm.out; have hln := HN.out; have := HJ.out; have := delL_len (l := l) (k := (m - 1)) (by omega); unfold cntf at hln ⊢; split at hln <;> split <;> omega)
          clear HN Hm
          rw [show ((m - 1 : Nat) : Int) = (m : Int) - 1 by omega] at HI
          go_wp2_with fail
          refine HI.out.mono ?_
          rintro e w5 ⟨q, s1, e1, rfl, ha, hk, R⟩
          obtain ⟨rfl, N⟩ := F.out.next (by have := HJ.out; omega) (by have := HLn.out; omega) R
          have A5 := Lib.hid ha
          have B5 := Lib.hid (B4.out.trans (hk.below_of B4.out.size))
          have NN := Lib.hid N
          clear ha hk R N A4 B4
          have hh : h ≠ 0 := Hh0.out
          have h0 : (h == 0) = false := by simpa using hh
          have h1 : (h != 0) = true := by simpa using hh
          have HD := Lib.hid (drop_is h (NN.out.drop hh) A5.out (snd_fit NN.out.snd1))
          clear hh
          go_wp2_with fail
          refine HD.out.mono ?_
          rintro e w6 ⟨rfl, ha, hk⟩
          have A6 := Lib.hid ha
          have B6 := Lib.hid (B5.out.trans (hk.below_of B5.out.size))
          clear ha hk HD A5 B5
          go_wp2_with fail
          refine (work_is (B := 100000000000) 1073741824 (s := (s1.drop h).1) (s' := (((s1.drop h).1).work 1073741824).1) (n := (((s1.drop h).1).work 1073741824).2) rfl rfl A6.out NN.out.snd2 (by decide) (by decide)).mono ?_
          rintro e w7 ⟨rfl, ha, hk⟩
          have A7 := Lib.hid ha
          have B7 := Lib.hid (B6.out.trans (hk.below_of B6.out.size))
          clear ha hk
          go_wp2_with fail
          go_roundw
          case rel => exact ⟨_, _, delL l (m - 1), j + 1, rfl, by go_num, by have := HJ.out; omega, HL2.out, NN.out.next, A7.out, B7.out⟩
          case measure => simp [intOf]; omega
      · obtain rfl : j = n + c := by omega
        have hlf : l.length = n - c := by rw [hln]; unfold cntf; split <;> omega
        have sn := F.out.snd (by omega)
        have HLen := Lib.hid (show Calls Try.prog 8 #[.pointer (some ⟨p, 0, none⟩), .int .i64 h] wr fun r w' => r = .returned (.int .i64 ((n : Int) - (c : Int))) ∧ Ars w' (fun b => b < w.heap.size) p s ∧ Below wr.heap.size wr w' from by
          have := len_is (w := wr) (K := fun b => b < w.heap.size) (p := p) (F.out.gd.goodb (by simp) (by have := F.out.mb; omega)) (by decide) F.out.lh (.inr (.inl List.mem_cons_self)) (by omega) A4.out
          rw [hlf, show ((n - c : Nat) : Int) = (n : Int) - (c : Int) by omega] at this
          exact this)
        have HDp := Lib.hid (fun W (ha : Ars W (fun b => b < w.heap.size) p s) => show Calls Try.prog 13 #[.pointer (some ⟨p, 0, none⟩), .int .i64 h] W fun e w' => (∃ d : Nat, d ≤ 2 * bl (n - c) ∧ e = .returned (.int .i64 d)) ∧ Below W.heap.size W w' from by
          have := deep_list (by omega) (snd_fit sn) F.out.lh ha
          rw [hlf] at this
          exact this)
        have HWd := fun W => Lib.hid (show Calls Try.prog 14 #[.int .i64 ((n : Int) - (c : Int))] W fun e w' => e = .returned (.int .i64 (bl (n - c) : Nat)) ∧ W = w' from by
          have := wide_is (n - c) (by omega) W
          rw [show ((n - c : Nat) : Int) = (n : Int) - (c : Int) by omega] at this
          exact this)
        obtain ⟨u, hu⟩ : ∃ u : Nat, s.busy = (u : Int) := Int.eq_ofNat_of_zero_le F.out.gd.busy_le.1
        have uI : (u : Int) ≤ 6000 := by have := F.out.gd.busy_le.2; have := F.out.n; omega
        have HU := Lib.hid (fun W (ha : Ars W (fun b => b < w.heap.size) p s) => used_is hu ha)
        have HR := Lib.hid (fun W (ha : Ars W (fun b => b < w.heap.size) p s) => reach_len (n := u) (ha.alloc (.cells #[.int .i64 h] 3)) (snd_fit sn) (ints_one W h) (by show 1 ≤ 100; omega) (fun zs a b => by have := busy_reach F.out.gd F.out.wt (R := [h]) (fun _ h => h) a b; omega))
        have HP := Lib.hid (fun W (ha : Ars W (fun b => b < w.heap.size) p s) => pending_is (c := 0) (s := s) (by rw [F.out.wt]; rfl) ha)
        have hbI : ((bl (n - c) : Nat) : Int) ≤ 10 := by have := bl_small (m := n - c) (by omega); omega
        clear hj hjt hln hlf sn hu
        generalize bl (n - c) = B at *
        go_wp2_with fail
        refine HLen.out.mono ?_
        rintro e w5 ⟨rfl, ha, hb⟩
        have A5 := Lib.hid ha
        have B5 := Lib.hid (B4.out.trans (hb.mono B4.out.size))
        clear ha hb HLen A4 B4
        go_wp2_with fail
        refine (HDp.out _ A5.out).mono ?_
        rintro e w6 ⟨⟨d, hd, rfl⟩, hb⟩
        have A6 := Lib.hid (A5.out.below hb)
        have B6 := Lib.hid (B5.out.trans (hb.mono B5.out.size))
        have dI : (d : Int) ≤ 2 * (B : Int) := by omega
        have dle : decide ((d : Int) ≤ 4 + 2 * (B : Int)) = true := by simp; omega
        clear hb hd HDp A5 B5
        go_wp2_with fail
        refine (HWd _).out.mono ?_
        rintro e w7 ⟨rfl, rfl⟩
        go_wp2_with fail
        refine (HU.out _ A6.out).mono ?_
        rintro e w7 ⟨rfl, rfl⟩
        go_wp2_with fail
        refine (HR.out _ A6.out).mono ?_
        rintro e w8 ⟨⟨ra, rc, rfl⟩, hb⟩
        have B7a := B6.out.alloc B6.out.size (.cells #[.int .i64 h] 3)
        have A8 := Lib.hid ((A6.out.alloc (.cells #[.int .i64 h] 3)).below hb)
        have B8 := Lib.hid (B7a.trans (hb.mono B7a.size))
        clear hb B7a A6 B6
        go_wp2_with fail
        refine (HP.out _ A8.out).mono ?_
        rintro e w9 ⟨rfl, rfl⟩
        go_wp2_with fail
        go_ret
        exact ⟨rfl, B8.out⟩
  · skip
    go_enter Try.func3, Try.ntmps3
    go_wp2_with fail
    refine (HA.out _).mono ?_
    rintro e w2 ⟨rfl, hb⟩
    have B2 := Lib.hid hb
    clear hb HA
    go_wp2_with fail
    refine (new_yes 2000 _ (by decide) (by decide)).mono ?_
    rintro e w3 ⟨p, rfl, hb, ha⟩
    have A3 := Lib.hid (ha (fun b => b < w.heap.size) (fun b hb => by have := B2.out.size; omega))
    have B3 := Lib.hid (B2.out.trans (hb.mono B2.out.size))
    clear hb ha B2
    go_wp2_with fail
    go_loopw [8, 9] (LL (fun b => b < w.heap.size) p n (n + c) w) (fun _ k _ => n + c - (intOf k).toNat)
    case atStart => exact ⟨_, _, [], 0, rfl, rfl, Nat.zero_le _, by unfold cntf; rw [if_pos (Nat.zero_le _)]; rfl, LF.new, A3.out, B3.out⟩
    case round =>
      obtain ⟨s, h, l, j, rfl, rfl, hj, hln, hf, ha, hb⟩ := hrel
      have F := Lib.hid hf
      have A4 := Lib.hid ha
      have B4 := Lib.hid hb
      have HLn := Lib.hid (show l.length ≤ n by rw [hln]; unfold cntf; split <;> omega)
      clear hf ha hb A3 B3
      by_cases hjt : j < n + c
      · have HJ := Lib.hid hjt
        have jI : (j : Int) < (n : Int) + (c : Int) := by omega
        have HLen := Lib.hid (len_is (w := wr) (K := fun b => b < w.heap.size) (p := p) (F.out.gd.goodb (by simp) (by have := F.out.mb; omega)) (by decide) F.out.lh (.inr (.inl List.mem_cons_self)) (by have := HLn.out; omega) A4.out)
        obtain ⟨m, hm⟩ : ∃ m, m = l.length := ⟨_, rfl⟩
        rw [← hm] at HLen
        have mI : (m : Int) ≤ 200 := by have := HLn.out; omega
        have Hm := Lib.hid hm
        have HN := Lib.hid hln
        clear hm hln
        go_wp2_with fail
        refine HLen.out.mono ?_
        rintro e w4 ⟨rfl, ha, hb⟩
        replace A4 := Lib.hid ha
        replace B4 := Lib.hid (B4.out.trans (hb.mono B4.out.size))
        clear ha hb HLen hj hjt
        by_cases hjn : j < n
        · have jn : (j : Int) < (n : Int) := by omega
          have HI := Lib.hid (linsert (x := (j : Int)) (y := 0) (i := 0) F.out.gd (by simp) (by have := F.out.mb; have := HJ.out; omega) F.out.lh (.inr (.inl List.mem_cons_self)) (by have := HLn.out; omega) (by have := Hm.out; omega) ⟨by omega, by omega⟩ (by decide) A4.out)
          have HL2 := Lib.hid (show (insL l 0 ((j : Int), 0)).length = cntf n (j + 1) from by rw [insL_len (by have := Hm.out; omega), HN.out]; unfold cntf; rw [if_pos (by omega), if_pos (by omega)])
          clear HN Hm
          go_wp2_with fail
          refine HI.out.mono ?_
          rintro e w5 ⟨q, s1, e1, rfl, ha, hk, R⟩
          obtain ⟨rfl, N⟩ := F.out.next (by have := HJ.out; omega) (by have := HLn.out; omega) R
          have A5 := Lib.hid ha
          have B5 := Lib.hid (B4.out.trans (hk.below_of B4.out.size))
          have NN := Lib.hid N
          clear ha hk R N A4 B4
          by_cases hh : h = 0
          · skip
            have h0 : (h == 0) = true := by simpa using hh
            have h1 : (h != 0) = false := by simpa using hh
            have NX := Lib.hid (show LF (s1.work 1073741824).1 q (insL l 0 ((j : Int), 0)) (j + 1) by have := NN.out.next; rw [NN.out.same hh] at this; exact this)
            clear hh
            go_wp2_with fail
            refine (work_is (B := 100000000000) 1073741824 (s := s1) (s' := ((s1).work 1073741824).1) (n := ((s1).work 1073741824).2) rfl rfl A5.out NN.out.snd1 (by decide) (by decide)).mono ?_
            rintro e w7 ⟨rfl, ha, hk⟩
            have A7 := Lib.hid ha
            have B7 := Lib.hid (B5.out.trans (hk.below_of B5.out.size))
            clear ha hk
            go_wp2_with fail
            go_roundw
            case rel => exact ⟨_, _, insL l 0 ((j : Int), 0), j + 1, rfl, by go_num, by have := HJ.out; omega, HL2.out, NX.out, A7.out, B7.out⟩
            case measure => simp [intOf]; omega
          · skip
            have h0 : (h == 0) = false := by simpa using hh
            have h1 : (h != 0) = true := by simpa using hh
            have HD := Lib.hid (drop_is h (NN.out.drop hh) A5.out (snd_fit NN.out.snd1))
            clear hh
            go_wp2_with fail
            refine HD.out.mono ?_
            rintro e w6 ⟨rfl, ha, hk⟩
            have A6 := Lib.hid ha
            have B6 := Lib.hid (B5.out.trans (hk.below_of B5.out.size))
            clear ha hk HD A5 B5
            go_wp2_with fail
            refine (work_is (B := 100000000000) 1073741824 (s := (s1.drop h).1) (s' := (((s1.drop h).1).work 1073741824).1) (n := (((s1.drop h).1).work 1073741824).2) rfl rfl A6.out NN.out.snd2 (by decide) (by decide)).mono ?_
            rintro e w7 ⟨rfl, ha, hk⟩
            have A7 := Lib.hid ha
            have B7 := Lib.hid (B6.out.trans (hk.below_of B6.out.size))
            clear ha hk
            go_wp2_with fail
            go_roundw
            case rel => exact ⟨_, _, insL l 0 ((j : Int), 0), j + 1, rfl, by go_num, by have := HJ.out; omega, HL2.out, NN.out.next, A7.out, B7.out⟩
            case measure => simp [intOf]; omega
        · have jn : (n : Int) ≤ (j : Int) := by omega
          have m1 : 1 ≤ m := by have hln := HN.out; have := Hm.out; unfold cntf at hln; have := HJ.out; split at hln <;> omega
          have mI1 : (1 : Int) ≤ (m : Int) := by omega
          have Hh0 := Lib.hid (show h ≠ 0 from fun e => by
            have := F.out.lh.nil_iff.1 e
            have hm := Hm.out
            rw [this] at hm
            simp at hm
            omega)
          have HI := Lib.hid (ldelete (i := 0) F.out.gd (by simp) (by have := F.out.mb; have := HJ.out; omega) F.out.lh (.inr (.inl List.mem_cons_self)) (by have := HLn.out; omega) (by have := Hm.out; omega) A4.out)
          have HL2 := Lib.hid (show (delL l 0).length = cntf n (j + 1) from by have := Hm.out; have hln := HN.out; have := HJ.out; have := delL_len (l := l) (k := 0) (by omega); unfold cntf at hln ⊢; split at hln <;> split <;> omega)
          clear HN Hm
          skip
          go_wp2_with fail
          refine HI.out.mono ?_
          rintro e w5 ⟨q, s1, e1, rfl, ha, hk, R⟩
          obtain ⟨rfl, N⟩ := F.out.next (by have := HJ.out; omega) (by have := HLn.out; omega) R
          have A5 := Lib.hid ha
          have B5 := Lib.hid (B4.out.trans (hk.below_of B4.out.size))
          have NN := Lib.hid N
          clear ha hk R N A4 B4
          have hh : h ≠ 0 := Hh0.out
          have h0 : (h == 0) = false := by simpa using hh
          have h1 : (h != 0) = true := by simpa using hh
          have HD := Lib.hid (drop_is h (NN.out.drop hh) A5.out (snd_fit NN.out.snd1))
          clear hh
          go_wp2_with fail
          refine HD.out.mono ?_
          rintro e w6 ⟨rfl, ha, hk⟩
          have A6 := Lib.hid ha
          have B6 := Lib.hid (B5.out.trans (hk.below_of B5.out.size))
          clear ha hk HD A5 B5
          go_wp2_with fail
          refine (work_is (B := 100000000000) 1073741824 (s := (s1.drop h).1) (s' := (((s1.drop h).1).work 1073741824).1) (n := (((s1.drop h).1).work 1073741824).2) rfl rfl A6.out NN.out.snd2 (by decide) (by decide)).mono ?_
          rintro e w7 ⟨rfl, ha, hk⟩
          have A7 := Lib.hid ha
          have B7 := Lib.hid (B6.out.trans (hk.below_of B6.out.size))
          clear ha hk
          go_wp2_with fail
          go_roundw
          case rel => exact ⟨_, _, delL l 0, j + 1, rfl, by go_num, by have := HJ.out; omega, HL2.out, NN.out.next, A7.out, B7.out⟩
          case measure => simp [intOf]; omega
      · obtain rfl : j = n + c := by omega
        have hlf : l.length = n - c := by rw [hln]; unfold cntf; split <;> omega
        have sn := F.out.snd (by omega)
        have HLen := Lib.hid (show Calls Try.prog 8 #[.pointer (some ⟨p, 0, none⟩), .int .i64 h] wr fun r w' => r = .returned (.int .i64 ((n : Int) - (c : Int))) ∧ Ars w' (fun b => b < w.heap.size) p s ∧ Below wr.heap.size wr w' from by
          have := len_is (w := wr) (K := fun b => b < w.heap.size) (p := p) (F.out.gd.goodb (by simp) (by have := F.out.mb; omega)) (by decide) F.out.lh (.inr (.inl List.mem_cons_self)) (by omega) A4.out
          rw [hlf, show ((n - c : Nat) : Int) = (n : Int) - (c : Int) by omega] at this
          exact this)
        have HDp := Lib.hid (fun W (ha : Ars W (fun b => b < w.heap.size) p s) => show Calls Try.prog 13 #[.pointer (some ⟨p, 0, none⟩), .int .i64 h] W fun e w' => (∃ d : Nat, d ≤ 2 * bl (n - c) ∧ e = .returned (.int .i64 d)) ∧ Below W.heap.size W w' from by
          have := deep_list (by omega) (snd_fit sn) F.out.lh ha
          rw [hlf] at this
          exact this)
        have HWd := fun W => Lib.hid (show Calls Try.prog 14 #[.int .i64 ((n : Int) - (c : Int))] W fun e w' => e = .returned (.int .i64 (bl (n - c) : Nat)) ∧ W = w' from by
          have := wide_is (n - c) (by omega) W
          rw [show ((n - c : Nat) : Int) = (n : Int) - (c : Int) by omega] at this
          exact this)
        obtain ⟨u, hu⟩ : ∃ u : Nat, s.busy = (u : Int) := Int.eq_ofNat_of_zero_le F.out.gd.busy_le.1
        have uI : (u : Int) ≤ 6000 := by have := F.out.gd.busy_le.2; have := F.out.n; omega
        have HU := Lib.hid (fun W (ha : Ars W (fun b => b < w.heap.size) p s) => used_is hu ha)
        have HR := Lib.hid (fun W (ha : Ars W (fun b => b < w.heap.size) p s) => reach_len (n := u) (ha.alloc (.cells #[.int .i64 h] 3)) (snd_fit sn) (ints_one W h) (by show 1 ≤ 100; omega) (fun zs a b => by have := busy_reach F.out.gd F.out.wt (R := [h]) (fun _ h => h) a b; omega))
        have HP := Lib.hid (fun W (ha : Ars W (fun b => b < w.heap.size) p s) => pending_is (c := 0) (s := s) (by rw [F.out.wt]; rfl) ha)
        have hbI : ((bl (n - c) : Nat) : Int) ≤ 10 := by have := bl_small (m := n - c) (by omega); omega
        clear hj hjt hln hlf sn hu
        generalize bl (n - c) = B at *
        go_wp2_with fail
        refine HLen.out.mono ?_
        rintro e w5 ⟨rfl, ha, hb⟩
        have A5 := Lib.hid ha
        have B5 := Lib.hid (B4.out.trans (hb.mono B4.out.size))
        clear ha hb HLen A4 B4
        go_wp2_with fail
        refine (HDp.out _ A5.out).mono ?_
        rintro e w6 ⟨⟨d, hd, rfl⟩, hb⟩
        have A6 := Lib.hid (A5.out.below hb)
        have B6 := Lib.hid (B5.out.trans (hb.mono B5.out.size))
        have dI : (d : Int) ≤ 2 * (B : Int) := by omega
        have dle : decide ((d : Int) ≤ 4 + 2 * (B : Int)) = true := by simp; omega
        clear hb hd HDp A5 B5
        go_wp2_with fail
        refine (HWd _).out.mono ?_
        rintro e w7 ⟨rfl, rfl⟩
        go_wp2_with fail
        refine (HU.out _ A6.out).mono ?_
        rintro e w7 ⟨rfl, rfl⟩
        go_wp2_with fail
        refine (HR.out _ A6.out).mono ?_
        rintro e w8 ⟨⟨ra, rc, rfl⟩, hb⟩
        have B7a := B6.out.alloc B6.out.size (.cells #[.int .i64 h] 3)
        have A8 := Lib.hid ((A6.out.alloc (.cells #[.int .i64 h] 3)).below hb)
        have B8 := Lib.hid (B7a.trans (hb.mono B7a.size))
        clear hb B7a A6 B6
        go_wp2_with fail
        refine (HP.out _ A8.out).mono ?_
        rintro e w9 ⟨rfl, rfl⟩
        go_wp2_with fail
        go_ret
        exact ⟨rfl, B8.out⟩

set_option maxRecDepth 100000 in
theorem lifted (os : Os) (started : os.Started) (H : Type) (enc : TypeId × Value → H) :
    ReturnsInHanded {} Try.checked os 3 .any (Rows.listFrontSpec.pre6 enc Try.prog Try.f3 Rows.listFrontRow.domain false) (Rows.listFrontSpec.post enc Try.prog Try.f3 false true false false) := by
  refine returnsInHanded_of_change (C := Try.checked) own_ started (by kernel_rfl) Try.func3
    (ChangeSpec.witness6 (enc := enc) (C := Try.checked) false ⟨#[], #[.int .i64 0, .int .i64 0, .bool false], []⟩ 8 (by kernel_rfl) (by kernel_rfl) (by kernel_rfl) (by kernel_rfl)) ?_
  intro W base args ds gs before hval0 hW _ _
  have hval : ∀ (j : Nat) t v, Try.f3.params[j]? = some t → args[j]? = some v → Value.okWide Try.prog W .any base t v := hval0
  have hW' := hW
  obtain ⟨p, q, hA0, hV, rfl, hfz, hnd⟩ := hW
  have hA : DataW.TrodAll enc Try.prog W 0 (fun _ => true) true Try.f3.params.toList args.toList ds p := hA0
  rw [Try.params3] at hA hval
  obtain ⟨v0, vs0, d0, ds0, p0, q0, hargs, rfl, rfl, h0, r0⟩ := trodAll_cons hA
  obtain ⟨v1, vs1, d1, ds1, p1, q1, rfl, rfl, rfl, h1, r1⟩ := trodAll_cons r0
  obtain ⟨v2, vs2, d2, ds2, p2, q2, rfl, rfl, rfl, h2, r2⟩ := trodAll_cons r1
  obtain ⟨rfl, rfl, rfl⟩ := trodAll_nil r2
  obtain rfl : args = #[v0, v1, v2] := by cases args; simp_all
  obtain ⟨a0, rfl, rfl, rfl, w0⟩ := open_int Try.underlying3 (hval 0 3 v0 rfl rfl) h0
  obtain ⟨a1, rfl, rfl, rfl, w1⟩ := open_int Try.underlying3 (hval 1 3 v1 rfl rfl) h1
  obtain ⟨a2, rfl, rfl, rfl⟩ := open_bool Try.underlying4 (hval 2 4 v2 rfl rfl) h2
  clear hA0 hval0
  refine (walk a0 w0 a1 w1 a2 W ).mono fun e W' ⟨he, hg⟩ => ?_
  subst he
  exact ⟨_, rfl, law_post laid_ (by kernel_rfl) rfl hW' hg rfl Try.underlying4 ⟨rfl, rfl, rfl⟩⟩

theorem over : Rows.listFrontRow.holds Try.pinned (OpenSpec.ofChange Rows.listFrontSpec) :=
  OpenClaim.holds_of_wide 3 Try.f3 rfl rfl rfl rfl rfl rfl rfl ⟨rfl, rfl, rfl, rfl, rfl⟩ rfl rfl rfl rfl rfl (by kernel_rfl) Try.func3 (by kernel_rfl)
    (of_decide_eq_true (by kernel_rfl)) (by unfold Func.isWrapper; first | (rw [if_pos (by decide +kernel)]; kernel_rfl) | (rw [if_neg (by decide +kernel)]; exact ⟨rfl, rfl⟩))
    (fun os started H enc _ => lifted os started H enc)

theorem proved : Rows.ListFrontSaid :=
  over
#print axioms proved
end Go.Proofs.Ytcdmebjggdhhdaa.listFront
