/- A tree of package bits that makes nodes: how it lies in memory; what is dropped, kept, made. -/
import Derived.Test.YtjfeocoengheaaaBw2
namespace Go.Proofs.Ytjfeocoengheaaa
set_option maxRecDepth 100000
open Go.RowKit

/-- The tree lies at block q, over the arena s at block p; e is its error. -/
structure BTre (w : World) (K : Nat → Prop) (q p : Nat) (s : Ar) (e : Int) : Prop where
  hq : w.heap[q]? = some (.cells #[.pointer (some ⟨p, 0, none⟩), .int .i64 e] 58 (0, 0))
  kq : ¬ K q
  ars : Ars w (fun b => K b ∨ b = q) p s

section
variable {w w' : World} {K : Nat → Prop} {q p : Nat} {s s' : Ar} {e : Int}
theorem BTre.cell (h : BTre w K q p s e) (i : Nat) : w.cell? ⟨q, i, none⟩ = (#[.pointer (some ⟨p, 0, none⟩), .int .i64 e] : Array Value)[i]? := cell_of_row _ _ _ _ _ _ h.hq
theorem BTre.c0 (h : BTre w K q p s e) : w.cell? ⟨q, 0, none⟩ = some (.pointer (some ⟨p, 0, none⟩)) := h.cell 0
theorem BTre.c1 (h : BTre w K q p s e) : w.cell? ⟨q, 1, none⟩ = some (.int .i64 e) := h.cell 1
theorem BTre.fz (h : BTre w K q p s e) (i : Nat) : w.frozen? ⟨q, i, none⟩ = false := frozen_of_row _ _ _ _ _ h.hq
theorem BTre.arena (h : BTre w K q p s e) (ha : Ars w' (fun b => K b ∨ b = q) p s') (hk : Kept (fun b => K b ∨ b = q) w w') : BTre w' K q p s' e :=
  ⟨(hk.block q (lt_heap h.hq) (.inr rfl)).trans h.hq, h.kq, ha⟩
theorem BTre.below (h : BTre w K q p s e) (hb : Below w.heap.size w w') : BTre w' K q p s e := h.arena (h.ars.below hb) (Kept.of_below hb _)
theorem BTre.alloc (h : BTre w K q p s e) (o : Obj) : BTre (w.alloc o) K q p s e := h.below ((Below.refl _ _).alloc (Nat.le_refl _) o)
theorem BTre.newK {K' : Nat → Prop} (h : BTre w K q p s e) (hb : Below w.heap.size w w') (hk : ∀ b, K' b → b < w'.heap.size ∧ (K b ∨ w.heap.size ≤ b)) : BTre w' K' q p s e := by
  have hlt := lt_heap h.hq
  refine ⟨(hb.block q hlt).trans h.hq, fun e => ?_, h.ars.newK hb fun b e => ?_⟩
  · rcases (hk q e).2 with x | x
    · exact h.kq x
    · omega
  · rcases e with e | rfl
    · exact ⟨(hk b e).1, by rcases (hk b e).2 with x | x; exact .inl (.inl x); exact .inr x⟩
    · exact ⟨Nat.lt_of_lt_of_le hlt hb.size, .inl (.inr rfl)⟩
theorem BTre.more {K' : Nat → Prop} (h : BTre w K q p s e) (hk : ∀ b, K' b → K b) : BTre w K' q p s e :=
  ⟨h.hq, fun x => h.kq (hk q x), h.ars.more fun b x => x.imp (hk b) id⟩
theorem BTre.allocK (h : BTre w K q p s e) (o : Obj) : BTre (w.alloc o) (fun b => K b ∨ b = w.heap.size) q p s e :=
  h.newK ((Below.refl _ _).alloc (Nat.le_refl _) _) fun b hb => by
    rcases hb with hb | rfl
    · exact ⟨by have := h.ars.lt b (.inl hb); simp; omega, .inl hb⟩
    · exact ⟨by simp, .inr (Nat.le_refl _)⟩
theorem BTre.drew (h : BTre w K q p s e) : BTre w.drew K q p s e := ⟨h.hq, h.kq, h.ars.drew⟩
theorem BTre.drewN (h : BTre w K q p s e) (m : Nat) : BTre (w.drewN m) K q p s e := ⟨h.hq, h.kq, h.ars.drewN m⟩
theorem BTre.set1 (h : BTre w K q p s e) (v : Int) : BTre (w.setCell ⟨q, 1, none⟩ (.int .i64 v)) K q p s v :=
  ⟨by rw [heap_setCell_same _ _ _ _ _ _ h.hq]; rfl, h.kq, h.ars.setCell (.inr rfl) _⟩
theorem BTre.put (h : BTre w K q p s e) {b : Nat} (hb : K b) (i : Nat) (v : Value) : BTre (w.setCell ⟨b, i, none⟩ v) K q p s e :=
  ⟨(heap_setCell_other _ _ _ _ (by rintro rfl; exact h.kq hb)).trans h.hq, h.kq, h.ars.setCell (.inl hb) v⟩
theorem kept_part {K' : Nat → Prop} (h : Kept (fun b => K b ∨ K' b) w w') : Kept K w w' := h.mono fun _ _ h => .inl h
end
theorem Snd.fit {s : Ar} (h : Snd s) : s.Fit := Ar.Ok.fit h (by decide)
theorem bwrap_small {x : Int} (h : -9223372036854775808 ≤ x) (h' : x < 9223372036854775808) : IntKind.i64.wrap x = x := (IntWalk.i64_left x).trans (IntWalk.wrap64_in x ⟨h, by omega⟩)
theorem bwrap_u64 {x : Int} (h : 0 ≤ x) (h' : x < 18446744073709551616) : IntKind.u64.wrap x = x := IntWalk.u64_in x ⟨h, by omega⟩
section
variable {K : Nat → Prop} {q p : Nat} {s s' s1 : Ar} {e : Int} {w : World}
set_option maxHeartbeats 1000000 in
theorem bkeep_is (h : Int) (hf : s.Fit) (ha : BTre w K q p s e) :
    Calls Try.prog 55 #[.pointer (some ⟨q, 0, none⟩), .int .i64 h] w fun r w' => r = .returned (.int .i64 h) ∧ BTre w' K q p (s.keep h).1 e ∧ Kept K w w' := by
  have c0 := ha.c0
  have H := Lib.hid (keep_is h (s' := (s.keep h).1) (e := (s.keep h).2) rfl ha.ars hf)
  have Ha := Lib.hid ha
  clear ha hf
  go_enter Try.func55, Try.ntmps55
  go_wp2_with fail
  refine H.out.mono ?_
  rintro e w1 ⟨rfl, ha, hk⟩
  go_wp2_with fail
  go_ret
  exact ⟨rfl, Ha.out.arena ha hk, kept_part hk⟩
/-- While a list is dropped. -/
structure Dropping (K : Nat → Prop) (q p : Nat) (s : Ar) (e : Int) (l : List Int) (g off : Nat) (w : World) (j : Nat) (W : World) : Prop where
  tre : BTre W K q p (s.drops (l.take j)) e
  kept : Kept K w W
  cells : ∀ i, i < l.length → W.cell? ⟨g, off + i, none⟩ = some (.int .i64 (l.getD i 0))
theorem drops_snoc (s : Ar) (l : List Int) (x : Int) : s.drops (l ++ [x]) = ((s.drops l).drop x).1 := by simp [Ar.drops]
set_option maxHeartbeats 2000000 in
theorem bdrop_is {B : Int} (l : List Int) {g off cap : Nat} (hg : K g) (hl : l.length ≤ 10) (hlc : l.length ≤ cap) (hc : ∀ i, i < l.length → w.cell? ⟨g, off + i, none⟩ = some (.int .i64 (l.getD i 0))) (ok : s.Ok B) (hB : B ≤ 1000000000000) (ha : BTre w K q p s e) :
    Calls Try.prog 63 #[.pointer (some ⟨q, 0, none⟩), .slice (some ⟨g, off, none⟩) l.length cap] w fun r w' => r = .returned (.tuple #[]) ∧ BTre w' K q p (s.drops l) e ∧ Kept K w w' := by
  have h0 := Lib.hid (show Dropping K q p s e l g off w 0 w from ⟨ha, Kept.refl _ _, hc⟩)
  have hl' : (l.length : Int) ≤ 10 := by omega
  have hlc' : (l.length : Int) ≤ cap := by omega
  clear hc ha
  go_enter Try.func63, Try.ntmps63
  go_wp2_with fail
  go_loopw [8] (fun i W => ∃ j : Nat, i = .int .i64 j ∧ j ≤ l.length ∧ Dropping K q p s e l g off w j W) (fun i _ => l.length - (intOf i).toNat)
  case atStart => exact ⟨0, rfl, Nat.zero_le _, h0.out⟩
  case round =>
    obtain ⟨j, rfl, hj, hd⟩ := hrel
    clear h0
    have Hd := Lib.hid hd
    by_cases hlt : j < l.length
    · have hlt' : (j : Int) < (l.length : Int) := by omega
      have c0 := hd.tre.c0
      have cx := hd.cells j hlt
      have ho := ok_drops (l.take j) ok
      have hx := drops_snoc s (l.take j) (l.getD j 0)
      have hs : l.take (j + 1) = l.take j ++ [l.getD j 0] := by
        rw [List.take_succ_eq_append_getElem hlt]
        simp [List.getD, hlt]
      have H := Lib.hid (drop_is (l.getD j 0) (s' := ((s.drops (l.take j)).drop (l.getD j 0)).1) (e := ((s.drops (l.take j)).drop (l.getD j 0)).2) rfl hd.tre.ars (ho.fit hB))
      have Hs := Lib.hid (show s.drops (l.take (j + 1)) = ((s.drops (l.take j)).drop (l.getD j 0)).1 by rw [hs]; exact hx)
      have Hlt := Lib.hid hlt
      have Hg := Lib.hid hg
      clear hx hs ho hd ok hlt hg
      generalize l.getD j 0 = y at *
      go_wp2_with fail
      refine H.out.mono ?_
      rintro e w2 ⟨rfl, ha2, hk2⟩
      have Hd2 := Lib.hid (show Dropping K q p s _ l g off w (j + 1) w2 from ⟨by rw [Hs.out]; exact Hd.out.tre.arena ha2 hk2, Hd.out.kept.trans (kept_part hk2), fun i hi => (World.cell?_of_block (hk2.block g (block_lt_of_cell (Hd.out.cells i hi)) (.inl Hg.out))).trans (Hd.out.cells i hi)⟩)
      clear ha2 hk2
      go_wp2_with fail
      go_roundw
      case rel => exact ⟨j + 1, by go_num, by have := Hlt.out; omega, Hd2.out⟩
      case measure => simp [intOf]; have := Hlt.out; omega
    · obtain rfl : j = l.length := by omega
      have hfin := Lib.hid (And.intro hd.tre hd.kept)
      clear hd Hd
      go_wp2_with fail
      go_end0
      have h1 := hfin.out.1
      rw [List.take_length] at h1
      exact ⟨rfl, h1, hfin.out.2⟩
end
end Go.Proofs.Ytjfeocoengheaaa
