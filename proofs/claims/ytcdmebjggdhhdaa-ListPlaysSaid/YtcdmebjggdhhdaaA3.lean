/- What Make does where all is right: the least free node is filled, and its kids are counted. -/
import Derived.Test.YtcdmebjggdhhdaaA2
namespace Go.Proofs.Ytcdmebjggdhhdaa
open Go.RowKit

theorem bumps_next (c : Nat → Int) (x : Nd) {k : Nat} {y : Int} (hy : x.kids[k]? = some y) : bumps c (x.kids.take (k + 1)) = bump (bumps c (x.kids.take k)) y := by
  rw [List.take_add_one, hy]
  simp [bumps]
/-- Behind the first k kids of the second loop. -/
structure Mid (w : World) (K : Nat → Prop) (p : Nat) (s : Ar) (x : Nd) (k : Nat) (N C U : Nat) (wv : Value) (W : World) : Prop where
  at_ : ArsAt W K p { s with c := bumps s.c (x.kids.take k) } N C U wv
  kept : Kept K w W
  size : W.heap.size = w.heap.size + 1
  bd : ∀ i, 0 ≤ bumps s.c (x.kids.take k) i ∧ bumps s.c (x.kids.take k) i ≤ 1000000000000 + k
  box : W.heap[w.heap.size]? = some (.cells #[.int .i64 x.tag, .int .i64 x.k0, .int .i64 x.k1, .int .i64 x.k2, .int .i64 x.k3, .int .u64 x.A, .int .u64 x.B] 64 (0, 0))

theorem Mid.step {w W : World} {K : Nat → Prop} {p : Nat} {s : Ar} {x : Nd} {k : Nat} {N C U : Nat} {wv : Value} {y : Int} (h : Mid w K p s x k N C U wv W) (hy : x.kids[k]? = some y) (hb : w.heap.size ≠ C) (g : y ≠ 0) :
    Mid w K p s x (k + 1) N C U wv (W.setCell ⟨C, y.toNat, none⟩ (.int .i64 (bumps s.c (x.kids.take k) y.toNat + 1))) := by
  have e : bumps s.c (x.kids.take (k + 1)) = upd (bumps s.c (x.kids.take k)) y.toNat (bumps s.c (x.kids.take k) y.toNat + 1) := by rw [bumps_next s.c x hy, bump, if_neg g]
  refine ⟨?_, h.kept.setCell (.inl h.at_.kC) _, by simp [World.setCell, h.size], ?_, (heap_setCell_other _ _ _ _ hb).trans h.box⟩
  · rw [e]; exact h.at_.setC _ _
  · intro i
    rw [bumps_next s.c x hy]
    have := bump_bd h.bd y i
    omega
theorem Mid.stay {w W : World} {K : Nat → Prop} {p : Nat} {s : Ar} {x : Nd} {k : Nat} {N C U : Nat} {wv : Value} {y : Int} (h : Mid w K p s x k N C U wv W) (hy : x.kids[k]? = some y) (g : y = 0) :
    Mid w K p s x (k + 1) N C U wv W := by
  have e : bumps s.c (x.kids.take (k + 1)) = bumps s.c (x.kids.take k) := by rw [bumps_next s.c x hy, bump, if_pos g]
  refine ⟨?_, h.kept, h.size, ?_, h.box⟩
  · rw [e]; exact h.at_
  · intro i
    rw [e]
    have := h.bd i
    omega

set_option maxHeartbeats 1000000 in
theorem make_put (K : Nat → Prop) (p : Nat) (s : Ar) (w : World) (x : Nd) (h : Ars w K p s) (hn : s.n ≤ 6000) (h0 : 1 ≤ x.tag) (h1 : x.tag ≤ 6) (hb : x.kids.any s.bad = false) (hf : s.free ≠ 0)
    (hB : ∀ i, 0 ≤ s.c i ∧ s.c i ≤ 1000000000000) (hbusy : 0 ≤ s.busy ∧ s.busy ≤ 1000000000000) (hmade : 0 ≤ s.made ∧ s.made ≤ 1000000000000) :
    Calls Try.prog 52 #[.pointer (some ⟨p, 0, none⟩), x.val] w fun e w' => e = .returned (.tuple #[.int .i64 s.free, .int .i64 0]) ∧ Ars w' K p (s.put s.free x) ∧ Kept K w w' := by
  have Hs := fun i o => Lib.hid (count_any K p s i (w.alloc o) (h.alloc o) hn)
  have Hf := fun o => Lib.hid (free_any K p s (w.alloc o) (h.alloc o) hn)
  have gf : ((s.free : Int) == 0) = false := by simpa using hf
  have hfr := free_in hf
  obtain ⟨N, C, U, wv, h⟩ := h
  have H := Lib.hid h
  have Hb := Lib.hid hb
  have HB := Lib.hid hB
  clear hb h hf hB
  unfold Nd.val
  go_enter Try.func52, Try.ntmps52
  go_wp2_with fail
  go_loop [21] (fun i => ∃ k : Nat, i = .int .i64 k ∧ k ≤ 4 ∧ KidsOk s x k) (fun i => 4 - (intOf i).toNat)
  case atStart => exact ⟨0, rfl, by omega, KidsOk.zero _ _⟩
  case round =>
    obtain ⟨k, rfl, k4, hk⟩ := hrel
    by_cases hlt : k < 4
    · obtain ⟨y, hy, hix⟩ := ix4 x k hlt
      have Hy := Lib.hid hy
      clear hy
      by_cases g0 : y = 0
      · have g : (y == 0) = true := by simpa using g0
        have g' : (y != 0) = false := by simpa using g0
        have Hg := Lib.hid g0
        clear g0
        go_wp2_with fail
        go_round
        case rel => exact ⟨k + 1, by go_num, by omega, hk.next Hy.out (.inl Hg.out)⟩
        case measure => simp [intOf]; omega
      · have g : (y == 0) = false := by simpa using g0
        have g' : (y != 0) = true := by simpa using g0
        have gc := Hs y
        clear Hs
        have g1 : s.count y ≠ 0 := by
          intro e
          have := Hb.out
          rw [List.any_eq_false] at this
          exact this y (List.mem_of_getElem? Hy.out) (bad_iff.2 ⟨g0, e⟩)
        have g2 : (s.count y == 0) = false := by simpa using g1
        have Hg := Lib.hid g1
        clear g0 g1
        go_wp2_with (go_at_call 39; refine (gc _).out.mono ?_; rintro e w' ⟨rfl, rfl⟩)
        go_round
        case rel => exact ⟨k + 1, by go_num, by omega, hk.next Hy.out (.inr Hg.out)⟩
        case measure => simp [intOf]; omega
    · obtain rfl : k = 4 := by omega
      clear hk Hs
      go_wp2_with (go_at_call 64; refine (Hf _).out.mono ?_; rintro e w' ⟨rfl, rfl⟩)
      clear Hf
      have hCs := lt_heap H.out.hC
      have hps := lt_heap H.out.hp
      have hNs := lt_heap H.out.hN
      have hUs := lt_heap H.out.hU
      go_loopw [39] (fun i W => ∃ k : Nat, i = .int .i64 k ∧ k ≤ 4 ∧ Mid w K p s x k N C U wv W) (fun i _ => 4 - (intOf i).toNat)
      case atStart =>
        exact ⟨0, rfl, by omega, ⟨(H.out.alloc _ : ArsAt _ K p s N C U wv), (Kept.refl _ _).alloc _, by simp, fun i => by have := HB.out i; exact ⟨this.1, by have := this.2; simp only [List.take_zero, bumps, List.foldl_nil, Int.natCast_zero, Int.add_zero]; exact this⟩, heap_alloc_new _ _⟩⟩
      case round =>
        obtain ⟨k, rfl, k4, hk⟩ := hrel
        by_cases hlt : k < 4
        · obtain ⟨y, hy, hix⟩ := ix4 x k hlt
          have Hy := Lib.hid hy
          clear hy
          by_cases g0 : y = 0
          · have g : (y == 0) = true := by simpa using g0
            have g' : (y != 0) = false := by simpa using g0
            have Hg := Lib.hid g0
            clear g0
            go_wp2_with fail
            go_roundw
            case rel => exact ⟨k + 1, by go_num, by omega, hk.stay Hy.out Hg.out⟩
            case measure => simp [intOf]; omega
          · have g : (y == 0) = false := by simpa using g0
            have g' : (y != 0) = true := by simpa using g0
            have g1 : s.count y ≠ 0 := by
              intro e
              have := Hb.out
              rw [List.any_eq_false] at this
              exact this y (List.mem_of_getElem? Hy.out) (bad_iff.2 ⟨g0, e⟩)
            obtain ⟨y1, y2, -⟩ := count_in g1
            have c1 := hk.at_.c1
            dsimp only at c1
            have cc := hk.at_.count (i := y.toNat) (by show y.toNat ≤ s.n; omega)
            dsimp only at cc
            have cf := hk.at_.fC y.toNat
            obtain ⟨b1, b2⟩ := hk.bd y.toNat
            have Hg := Lib.hid g0
            clear g0 g1
            go_wp2_with fail
            go_roundw
            case rel => exact ⟨k + 1, by go_num, by omega, hk.step Hy.out (by omega) Hg.out⟩
            case measure => simp [intOf]; omega
        · obtain rfl : k = 4 := by omega
          have Hm := Lib.hid hk
          clear hk
          have e0 := Hm.out.at_.c0
          have e1 := Hm.out.at_.c1
          have e2 := Hm.out.at_.c2
          have e4 := Hm.out.at_.c4
          have e5 := Hm.out.at_.c5
          dsimp only at e0 e1 e2 e4 e5
          obtain ⟨f1, f2⟩ := hfr
          have cc := Hm.out.at_.count f2
          have cu := Hm.out.at_.used f2
          have n0 := Hm.out.at_.node (j := 0) f2 (by omega)
          have n1 := Hm.out.at_.node (j := 1) f2 (by omega)
          have n2 := Hm.out.at_.node (j := 2) f2 (by omega)
          have n3 := Hm.out.at_.node (j := 3) f2 (by omega)
          have n4 := Hm.out.at_.node (j := 4) f2 (by omega)
          have n5 := Hm.out.at_.node (j := 5) f2 (by omega)
          have n6 := Hm.out.at_.node (j := 6) f2 (by omega)
          dsimp only [Nd.cell] at cc cu n0 n1 n2 n3 n4 n5 n6
          rw [Nat.add_zero] at n0
          have d0 : wr.cell? ⟨w.heap.size, 0, none⟩ = some (.int .i64 x.tag) := by rw [cell_of_row _ _ _ _ _ _ Hm.out.box]; rfl
          have d1 : wr.cell? ⟨w.heap.size, 1, none⟩ = some (.int .i64 x.k0) := by rw [cell_of_row _ _ _ _ _ _ Hm.out.box]; rfl
          have d2 : wr.cell? ⟨w.heap.size, 2, none⟩ = some (.int .i64 x.k1) := by rw [cell_of_row _ _ _ _ _ _ Hm.out.box]; rfl
          have d3 : wr.cell? ⟨w.heap.size, 3, none⟩ = some (.int .i64 x.k2) := by rw [cell_of_row _ _ _ _ _ _ Hm.out.box]; rfl
          have d4 : wr.cell? ⟨w.heap.size, 4, none⟩ = some (.int .i64 x.k3) := by rw [cell_of_row _ _ _ _ _ _ Hm.out.box]; rfl
          have d5 : wr.cell? ⟨w.heap.size, 5, none⟩ = some (.int .u64 x.A) := by rw [cell_of_row _ _ _ _ _ _ Hm.out.box]; rfl
          have d6 : wr.cell? ⟨w.heap.size, 6, none⟩ = some (.int .u64 x.B) := by rw [cell_of_row _ _ _ _ _ _ Hm.out.box]; rfl
          have q1 := blk_ne Hm.out.at_.hC Hm.out.at_.hN (by decide)
          have q2 := blk_ne Hm.out.at_.hN Hm.out.at_.hC (by decide)
          have q3 := blk_ne Hm.out.at_.hU Hm.out.at_.hN (by decide)
          have q4 := blk_ne Hm.out.at_.hN Hm.out.at_.hU (by decide)
          have q5 := blk_ne Hm.out.at_.hU Hm.out.at_.hC (by decide)
          have q6 := blk_ne Hm.out.at_.hC Hm.out.at_.hU (by decide)
          have q7 := blk_ne Hm.out.at_.hp Hm.out.at_.hN (by decide)
          have q8 := blk_ne Hm.out.at_.hp Hm.out.at_.hC (by decide)
          have q9 := blk_ne Hm.out.at_.hp Hm.out.at_.hU (by decide)
          have t1 := blk_ne Hm.out.at_.hN Hm.out.at_.hp (by decide)
          have t2 := blk_ne Hm.out.at_.hC Hm.out.at_.hp (by decide)
          have t3 := blk_ne Hm.out.at_.hU Hm.out.at_.hp (by decide)
          have r0 := Hm.out.at_.fN
          have r1 := Hm.out.at_.fC
          have r2 := Hm.out.at_.fU
          have r3 := Hm.out.at_.f
          go_wp2_with fail
          go_region
          go_wp2
          go_ret2
          have hm := Hm.out
          exact ⟨rfl, (((((hm.at_.setN s.free x).setC s.free 1).setU s.free true).setBusy (s.busy + 1)).setMade (s.made + 1)).ars.drew,
            (((((((((((hm.kept.setCell (.inl hm.at_.kN) _).setCell (.inl hm.at_.kN) _).setCell (.inl hm.at_.kN) _).setCell (.inl hm.at_.kN) _).setCell (.inl hm.at_.kN) _).setCell (.inl hm.at_.kN) _).setCell (.inl hm.at_.kN) _).setCell (.inl hm.at_.kC) _).setCell (.inl hm.at_.kU) _).setCell (.inl hm.at_.kp) _).setCell (.inl hm.at_.kp) _).drew⟩
end Go.Proofs.Ytcdmebjggdhhdaa
