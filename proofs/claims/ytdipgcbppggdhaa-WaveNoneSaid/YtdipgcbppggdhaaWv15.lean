/- The first call that the statements on rows of symbols make: it answers true. -/
import Derived.Test.YtdipgcbppggdhaaWv14
import Derived.Test.YtdipgcbppggdhaaArg
namespace Go.Proofs.Ytdipgcbppggdhaa
set_option maxRecDepth 100000
open Go.RowKit
theorem zl_new {l : List Nat} {w : World} : Ints (w.alloc (.cells ((zl l).map (Value.int .i64)).toArray 3)) (.slice (some ⟨w.heap.size, 0, none⟩) l.length l.length) (zl l) :=
  .inr ⟨_, 0, _, by rw [zl_len], by simp, by rw [zl_len]; exact Nat.le_refl _, fun j hj => cell_new (by simp) (by simp [List.getD, hj])⟩
set_option maxHeartbeats 4000000 in
theorem alive9 (w : World) : Calls Try.prog 10 #[] w fun e w' => e = .returned (.bool true) ∧ Below w.heap.size w w' := by
  obtain ⟨K, hK⟩ : ∃ K : Nat → Prop, K = fun b => b < w.heap.size := ⟨_, rfl⟩
  have HK := Lib.hid hK
  clear hK
  have g0 := gd_new (n := 200) (by decide) (by decide)
  have m0 : (Ar.new 200).made = 0 := rfl
  have b0 : (Ar.new 200).busy = 0 := rfl
  have n0 : (Ar.new 200).n = 200 := rfl
  obtain ⟨s1, h1, W1, g1, r1, c1⟩ := wInsert_yes (i := 0) (v := 98) g0 (WRow.zero _ _) (Nat.le_refl _) (by decide) (by decide) (by decide) (by decide) (by decide)
  obtain ⟨k1, d1, d2, d3⟩ := W1.made
  have n1 := W1.ext.n
  have k14 : k1 ≤ 45 := Nat.le_trans d1 (by decide)
  obtain ⟨s2, h2, W2, g2, r2, c2⟩ := wInsert_yes (i := 1) (v := 0) g1 r1 (by decide) (by decide) (by decide) (by simp) (by omega) (by
    show s1.busy + ((45 : Nat) : Int) < (s1.n : Int)
    omega)
  obtain ⟨k2, f1, f2, f3⟩ := W2.made
  have sn : Snd s2 := g2.snd (by simp) (by omega)
  have r1' := r1.ext W2.ext (fun x hx => List.mem_cons_of_mem h2 hx)
  have e2 : wIns (wIns [] 0 98) 1 0 = [98, 0] := rfl
  rw [e2] at r2
  have e1 : wIns [] 0 98 = [98] := rfl
  rw [e1] at r1'
  have R2 := Lib.hid r2
  have R1 := Lib.hid r1'
  have G2 := Lib.hid g2
  have Sn := Lib.hid sn
  have C1 := Lib.hid (fun (p : Nat) (w' : World) (a : Ars w' K p (Ar.new 200)) => show Calls Try.prog 17 #[.pointer (some ⟨p, 0, none⟩), .int .i64 0, .int .i64 0, .int .i64 98] w' fun o w'' => o = .returned (.tuple #[.int .i64 h1, .int .i64 0]) ∧ Ars w'' K p s1 ∧ Kept K w' w'' from c1 a)
  have C2 := Lib.hid (fun (p : Nat) (w' : World) (a : Ars w' K p s1) => show Calls Try.prog 17 #[.pointer (some ⟨p, 0, none⟩), .int .i64 h1, .int .i64 1, .int .i64 0] w' fun o w'' => o = .returned (.tuple #[.int .i64 h2, .int .i64 0]) ∧ Ars w'' K p s2 ∧ Kept K w' w'' from c2 a)
  clear g0 W1 g1 r1 c1 k1 d1 d2 d3 m0 b0 n0 n1 k14 W2 g2 r2 c2 k2 f1 f2 f3 sn r1' e1 e2
  go_enter Try.func10, Try.ntmps10
  go_wp2_with fail
  refine (new_yes 200 w (by decide) (by decide)).mono ?_
  rintro e w1 ⟨p, rfl, hb, ha⟩
  replace ha := ha K (fun _ h => by rw [HK.out] at h; exact h)
  have Hk := Lib.hid (Kept.of_below hb K)
  have Ha := Lib.hid ha
  clear hb ha
  go_wp2_with fail
  refine (C1.out p _ Ha.out).mono ?_
  rintro e w2 ⟨rfl, ha, hk⟩
  have H1 := Lib.hid (Hk.out.trans hk)
  have Ha := Lib.hid ha
  clear ha hk
  go_wp2_with fail
  refine (C2.out p _ Ha.out).mono ?_
  rintro e w3 ⟨rfl, ha, hk⟩
  have hk2 := H1.out.trans hk
  rw [HK.out] at hk2
  have B3 := Lib.hid (hk2.below_of (Nat.le_refl _))
  have A3 := Lib.hid ha
  clear ha hk hk2
  go_wp2_with fail
  refine (show Calls Try.prog 16 #[.pointer (some ⟨p, 0, none⟩), .int .i64 h2, .int .i64 0] w3 fun e w' => e = .returned (.tuple #[.int .i64 98, .bool true]) ∧ Below w3.heap.size w3 w' from wget_row (i := 0) G2.out Sn.out R2.out A3.out (by decide)).mono ?_
  rintro e w4 ⟨rfl, b4⟩
  have B4 := Lib.hid b4
  clear b4
  go_wp2_with fail
  refine (show Calls Try.prog 13 #[.pointer (some ⟨p, 0, none⟩), .int .i64 h2, .int .i64 0, .int .i64 2] w4 fun e w' => e = .returned (.int .i64 1) ∧ Below w4.heap.size w4 w' from wrank_row (i := 2) (c := 2) (v := 0) G2.out Sn.out R2.out (by decide) (by decide) (A3.out.below B4.out)).mono ?_
  rintro e w5 ⟨rfl, b5⟩
  have B5 := Lib.hid (B4.out.trans (b5.mono B4.out.size))
  clear b5
  go_wp2_with fail
  refine (show Calls Try.prog 15 #[.pointer (some ⟨p, 0, none⟩), .int .i64 h2, .int .i64 98] w5 fun e w' => e = .returned (.int .i64 1) ∧ Below w5.heap.size w5 w' from wbefore_row (v := 98) G2.out Sn.out R2.out (by decide) (A3.out.below B5.out)).mono ?_
  rintro e w6 ⟨rfl, b6⟩
  have B6 := Lib.hid (B5.out.trans (b6.mono B5.out.size))
  clear b6
  go_wp2_with fail
  refine (wall_row G2.out Sn.out R1.out (A3.out.below B6.out)).mono ?_
  rintro e w7 ⟨v7, K7, rfl, l7, _, b7⟩
  have B7 := Lib.hid (B6.out.trans (b7.mono B6.out.size))
  have L7 := Lib.hid l7.ints.iv
  clear b7 l7
  go_wp2_with fail
  have B8 := Lib.hid (B7.out.alloc B7.out.size (.cells #[.int .i64 98] 3))
  refine (same_ints_is (xs := zl [98]) (L7.out.below ((Below.refl _ _).alloc (Nat.le_refl _) _)) (zl_new (l := [98])).iv (by decide)).mono ?_
  rintro e w9 ⟨rfl, q9, rfl⟩
  go_wp2_with fail
  go_ret
  exact ⟨rfl, B3.out.trans ((below_drewN B8.out q9).mono B3.out.size)⟩
theorem col_nat {xs : List Int} (h : (xs.all fun x => decide (0 ≤ x ∧ x < 257)) = true) : ∃ zs, xs = zl zs ∧ ∀ x, x ∈ zs → x < 257 := by
  rw [List.all_eq_true] at h
  refine ⟨xs.map Int.toNat, ?_, fun x hx => ?_⟩
  · unfold zl
    rw [List.map_map]
    conv => lhs; rw [← List.map_id xs]
    refine List.map_congr_left fun x hx => ?_
    have := h x hx
    simp at this
    show x = ((x.toNat : Nat) : Int)
    omega
  · obtain ⟨y, hy, rfl⟩ := List.mem_map.1 hx
    have := h y hy
    simp at this
    omega
theorem count_lt_succ (v : Nat) (zs : List Nat) : zs.countP (fun y => decide (y < v + 1)) = zs.countP (fun y => decide (y < v)) + zs.count v := by
  induction zs with
  | nil => rfl
  | cons y zs ih =>
    rw [List.countP_cons, List.countP_cons, List.count_cons, ih]
    have : y < v ∨ y = v ∨ v < y := by omega
    rcases this with h | h | h
    · rw [if_pos (by simp; omega), if_pos (by simp; omega), if_neg (by simp; omega)]; omega
    · rw [if_pos (by simp; omega), if_neg (by simp; omega), if_pos (by simp; omega)]; omega
    · rw [if_neg (by simp; omega), if_neg (by simp; omega), if_neg (by simp; omega)]; omega
section
variable {w : World} {v : Value} {xs : List Int}
theorem IntsArg.iv (h : IntsArg w v xs) : IV w v xs := ⟨h.val, fun h0 => h.cell 0 h0⟩
end
end Go.Proofs.Ytdipgcbppggdhaa
