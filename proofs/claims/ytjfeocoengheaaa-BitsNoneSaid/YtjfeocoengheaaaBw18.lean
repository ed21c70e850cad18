/- The first call that the statements on bits make: it answers true. -/
import Derived.Test.YtjfeocoengheaaaBw17
namespace Go.Proofs.Ytjfeocoengheaaa
set_option maxRecDepth 100000
open Go.RowKit
section
variable {w w' : World} {K : Nat → Prop} {p : Nat} {s s' : Ar} {L L' : List Int} {h : Int} {xs : List Bool}
/-- A bit is put in where there is room. -/
theorem bInsert_yes {one : Bool} {i : Nat} (g : Gd s L) (r : Row s L h xs) (hi : i ≤ xs.length) (hx : xs.length < 5000) (hL : L.length ≤ 400000) (hm : s.made - s.busy ≤ 1000000000) (room : s.busy + (3 * (xs.length / 16 + 1) + 1 : Nat) < s.n) : ∃ s' q, Went s s' (3 * (xs.length / 16 + 1) + 1) ∧ Gd s' (q :: L) ∧ Row s' (q :: L) q (bIns xs i one) ∧
    ∀ {K : Nat → Prop} {p : Nat} {w : World}, Ars w K p s → Calls Try.prog 17 #[.pointer (some ⟨p, 0, none⟩), .int .i64 h, .int .i64 i, .bool one] w fun o w' => o = .returned (.tuple #[.int .i64 q, .int .i64 0]) ∧ Ars w' K p s' ∧ Kept K w w' := by
  obtain ⟨s', e', q, a1, a2, a3, _, a5, a6⟩ := bInsert_ex (one := one) g r hi hx hL hm
  have e0 : e' = 0 := by
    rcases a2 with a2 | ⟨_, a2⟩
    · exact a2
    · obtain ⟨k, hk, _, hb⟩ := a1.made
      have := a1.ext.n
      omega
  subst e0
  exact ⟨s', q, a1, a3, a5 rfl, a6⟩
theorem bools_new {l : List Bool} : Bools (w.alloc (.cells (l.map Value.bool).toArray 4)) (.slice (some ⟨w.heap.size, 0, none⟩) l.length l.length) l :=
  .inr ⟨_, 0, _, rfl, by simp, Nat.le_refl _, fun j hj => cell_new (by simp) (by simp [List.getD, hj])⟩
set_option maxHeartbeats 2000000 in
theorem alive8 (w : World) : Calls Try.prog 10 #[] w fun e w' => e = .returned (.bool true) ∧ Below w.heap.size w w' := by
  obtain ⟨K, hK⟩ : ∃ K : Nat → Prop, K = fun b => b < w.heap.size := ⟨_, rfl⟩
  have HK := Lib.hid hK
  clear hK
  have g0 := gd_new (n := 20) (by decide) (by decide)
  obtain ⟨s1, h1, W1, g1, r1, c1⟩ := bInsert_yes (one := true) (i := 0) g0 (Row.zero _ _) (by simp) (by simp) (by simp) (by decide) (by decide)
  obtain ⟨k1, d1, d2, d3⟩ := W1.made
  have m0 : (Ar.new 20).made = 0 := rfl
  have b0 : (Ar.new 20).busy = 0 := rfl
  have n0 : (Ar.new 20).n = 20 := rfl
  have n1 := W1.ext.n
  have k14 : k1 ≤ 4 := d1
  obtain ⟨s2, h2, W2, g2, r2, c2⟩ := bInsert_yes (one := false) (i := 0) g1 r1 (by simp) (by decide) (by simp) (by omega) (by
    show s1.busy + ((4 : Nat) : Int) < (s1.n : Int)
    omega)
  obtain ⟨k2, f1, f2, f3⟩ := W2.made
  have sn : Snd s2 := g2.snd (by simp) (by omega)
  have r1' := r1.ext W2.ext (fun x hx => List.mem_cons_of_mem h2 hx)
  have e2 : bIns (bIns [] 0 true) 0 false = [false, true] := rfl
  rw [e2] at r2
  have e1 : bIns ([] : List Bool) 0 true = [true] := rfl
  rw [e1] at r1'
  have R2 := Lib.hid r2
  have R1 := Lib.hid r1'
  have G2 := Lib.hid g2
  have Sn := Lib.hid sn
  have C1 := Lib.hid (fun (p : Nat) (w' : World) (a : Ars w' K p (Ar.new 20)) => show Calls Try.prog 17 #[.pointer (some ⟨p, 0, none⟩), .int .i64 0, .int .i64 0, .bool true] w' fun o w'' => o = .returned (.tuple #[.int .i64 h1, .int .i64 0]) ∧ Ars w'' K p s1 ∧ Kept K w' w'' from c1 a)
  have C2 := Lib.hid (fun (p : Nat) (w' : World) (a : Ars w' K p s1) => show Calls Try.prog 17 #[.pointer (some ⟨p, 0, none⟩), .int .i64 h1, .int .i64 0, .bool false] w' fun o w'' => o = .returned (.tuple #[.int .i64 h2, .int .i64 0]) ∧ Ars w'' K p s2 ∧ Kept K w' w'' from c2 a)
  clear g0 W1 g1 r1 c1 k1 d1 d2 d3 m0 b0 n0 n1 k14 W2 g2 r2 c2 k2 f1 f2 f3 sn r1' e1 e2
  go_enter Try.func10, Try.ntmps10
  go_wp2_with fail
  refine (new_yes 20 w (by decide) (by decide)).mono ?_
  rintro e w1 ⟨p, rfl, hb, ha⟩
  replace ha := ha K (fun _ h => by rw [HK.out] at h; exact h)
  have Hk := Lib.hid (Kept.of_below hb K)
  have Ha := Lib.hid ha
  clear hb ha
  go_wp2_with fail
  refine (C1.out p _ Ha.out).mono ?_
  rintro e w2 ⟨rfl, ha, hk⟩
  have H1 := Lib.hid (Hk.out.trans hk)
  have Ha := Lib.hid ha
  clear ha hk
  go_wp2_with fail
  refine (C2.out p _ Ha.out).mono ?_
  rintro e w3 ⟨rfl, ha, hk⟩
  have hk2 := H1.out.trans hk
  rw [HK.out] at hk2
  have B3 := Lib.hid (hk2.below_of (Nat.le_refl _))
  have A3 := Lib.hid ha
  clear ha hk hk2
  go_wp2_with fail
  refine (blen_row G2.out Sn.out R2.out A3.out).mono ?_
  rintro e w4 ⟨rfl, b4⟩
  have B4 := Lib.hid b4
  clear b4
  go_wp2_with fail
  refine (show Calls Try.prog 16 #[.pointer (some ⟨p, 0, none⟩), .int .i64 h2, .int .i64 2] w4 fun e w' => e = .returned (.int .i64 1) ∧ Below w4.heap.size w4 w' from brank_row (i := 2) G2.out Sn.out R2.out (A3.out.below B4.out) (by decide)).mono ?_
  rintro e w5 ⟨rfl, b5⟩
  have B5 := Lib.hid (B4.out.trans (b5.mono B4.out.size))
  clear b5
  go_wp2_with fail
  refine (ball_is G2.out Sn.out R2.out (by decide) (A3.out.below B5.out)).mono ?_
  rintro e w6 ⟨v6, K6, rfl, l6, _, b6⟩
  have B6 := Lib.hid (B5.out.trans (b6.mono B5.out.size))
  have L6 := Lib.hid l6.bools
  clear b6 l6
  go_wp2_with fail
  have B7 := Lib.hid (B6.out.alloc B6.out.size (.cells #[.bool false, .bool true] 4))
  refine (same_bools_is (xs := [false, true]) (L6.out.below ((Below.refl _ _).alloc (Nat.le_refl _) _)) (bools_new (l := [false, true])) (by decide)).mono ?_
  rintro e w7 ⟨rfl, b7⟩
  have B8 := Lib.hid (B7.out.trans (b7.mono B7.out.size))
  clear b7
  go_wp2_with fail
  refine (ball_is G2.out Sn.out R1.out (by decide) (A3.out.below B8.out)).mono ?_
  rintro e w8 ⟨v8, K8, rfl, l8, _, b8⟩
  have B9 := Lib.hid (B8.out.trans (b8.mono B8.out.size))
  have L8 := Lib.hid l8.bools
  clear b8 l8
  go_wp2_with fail
  have B10 := Lib.hid (B9.out.alloc B9.out.size (.cells #[.bool true] 4))
  refine (same_bools_is (xs := [true]) (L8.out.below ((Below.refl _ _).alloc (Nat.le_refl _) _)) (bools_new (l := [true])) (by decide)).mono ?_
  rintro e w9 ⟨rfl, b9⟩
  have B11 := Lib.hid (B10.out.trans (b9.mono B10.out.size))
  clear b9
  go_wp2_with fail
  go_ret
  exact ⟨rfl, B3.out.trans (B11.out.mono B3.out.size)⟩
end
end Go.Proofs.Ytjfeocoengheaaa
